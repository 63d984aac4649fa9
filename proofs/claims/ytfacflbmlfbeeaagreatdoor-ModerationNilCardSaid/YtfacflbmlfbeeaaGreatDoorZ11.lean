/- The formulas of functions by the symbolic evaluator, and that each gives the call's contract. Written by a program (gen.py). No condition. -/
import Derived.Test.YtfacflbmlfbeeaaGreatDoorProg
import Derived.Test.YtfacflbmlfbeeaaGreatDoorZ02
import Derived.Test.YtfacflbmlfbeeaaGreatDoorZ05
import Derived.Test.YtfacflbmlfbeeaaGreatDoorZ04
import Derived.KernelRfl
namespace Go.Proofs.YtfacflbmlfbeeaaGreatDoor
set_option maxRecDepth 100000
set_option linter.unusedVariables false

def VC_setMods0 (s : ByteArray) (p : Option Addr) (n : Nat) (c : Nat) (w : World) (R : Ending → World → Prop) : Prop :=
 R (Ending.returned (Value.int IntKind.i64 1)) w
theorem vc_setMods0 (s : ByteArray) (p : Option Addr) (n : Nat) (c : Nat) (w : World) (R : Ending → World → Prop) (h : VC_setMods0 s p n c w R) : Calls Tryz.prog 38 ([Value.pointer
    none,
  Value.string s, Value.slice p n c] : List Value).toArray w R := by
  have e : execR2 { P := Tryz.prog, loops := [], pur := pur1, tails := [], joins := [], boxes := [] } Tryz.f38.results.toList R (Tryz.f38.body.getD .skip) (initF [Value.pointer
    none,
  Value.string s,
  Value.slice p n
    c] (Tryz.f38.ntmps - ([Value.pointer none, Value.string s,
  Value.slice p n c] : List Value).length)) w = VC_setMods0 s p n c w R := by kernel_rfl
  have hb : Tryz.f38.body = some (Tryz.f38.body.getD .skip) := by kernel_rfl
  exact calls_of_exec2' (P := Tryz.prog) (fn := Tryz.f38) (c := Tryz.f38.body.getD .skip) (args := [Value.pointer none,
  Value.string s, Value.slice p n c]) (w := w) (R := R) pur1_ok Tryz.func38 hb e h

def VC_mods0 (s : ByteArray) (w : World) (R : Ending → World → Prop) : Prop :=
 R (Ending.returned (Value.slice none 0 0)) w
theorem vc_mods0 (s : ByteArray) (w : World) (R : Ending → World → Prop) (h : VC_mods0 s w R) : Calls Tryz.prog 16 ([Value.pointer
    none,
  Value.string s] : List Value).toArray w R := by
  have e : execR2 { P := Tryz.prog, loops := [], pur := pur1, tails := [], joins := [], boxes := [] } Tryz.f16.results.toList R (Tryz.f16.body.getD .skip) (initF [Value.pointer
    none,
  Value.string
    s] (Tryz.f16.ntmps - ([Value.pointer none,
  Value.string s] : List Value).length)) w = VC_mods0 s w R := by kernel_rfl
  have hb : Tryz.f16.body = some (Tryz.f16.body.getD .skip) := by kernel_rfl
  exact calls_of_exec2' (P := Tryz.prog) (fn := Tryz.f16) (c := Tryz.f16.body.getD .skip) (args := [Value.pointer none,
  Value.string s]) (w := w) (R := R) pur1_ok Tryz.func16 hb e h

def VC_submit0 (i : Nat → Int) (s : ByteArray) (t : ByteArray) (now : Int) (w : World) (R : Ending → World → Prop) : Prop :=
 ∀ (n : Nat) (W : World),
 Loc w.heap.size
 [Blk.mk n 32
 (arrI IntKind.u8 i 32 0)
 2]
 w W →
 CallsS Tryz.prog 48 #[Value.pointer none, Value.int IntKind.i64 now] W fun (e : Ending) (w' : World) =>
 ∃ (x : Int),
 e = Ending.returned (Value.int IntKind.i64 x) ∧
 KeptL [n] W w' ∧
 bsp (x != 0) (R (Ending.returned (Value.int IntKind.i64 x)) w')
 (CallsS Tryz.prog 49 #[Value.string s] w' fun (e : Ending) (w'_1 : World) =>
 ∃ (x : Int),
 e = Ending.returned (Value.int IntKind.i64 x) ∧
 KeptL [n] w' w'_1 ∧
 bsp (x != 0) (R (Ending.returned (Value.int IntKind.i64 x)) w'_1)
 (∀ (n_1 : Nat) (W : World),
 Loc w.heap.size
 [Blk.mk n_1 103
 (arrI IntKind.u8 i 32 0 ++ [Value.string s])
 (wrM 2),
 Blk.mk n 32
 (arrI IntKind.u8 i 32 0)
 0]
 w'_1 W →
 ∃ (S : World → Prop),
 S W ∧
 true = false ∧
 ∃ (x : Option Nat),
 (∀ (w' : World), S w' → w'.cell? (Addr.mk 0 4 none) = some (Value.map x)) ∧
 ∃ (f : Nat → Int),
 ∃ (x_1 : ByteArray),
 (∀ (w' : World),
 S w' →
 AtL w' n_1 0
 (arrI IntKind.u8 f 32 0 ++ [Value.string x_1])) ∧
 ∃ (f_1 : Nat → Int),
 ∃ (x_2 : ByteArray),
 ∃ (x_3 : ByteArray),
 ∃ (x_4 : Int),
 ∃ (x_5 : Int),
 ∃ (f_2 : Nat → Int),
 ∃ (x_6 : Int),
 ∃ (x_7 : ByteArray),
 ∃ (x_8 : Bool),
 ∃ (f_3 : Nat → Int),
 ∃ (x_9 : Int),
 ∃ (b : Bool),
 (∀ (w' : World),
 S w' →
 LookP Tryz.prog 96 (Value.map x)
 (Value.agg
 (arrI IntKind.u8 f 32 0 ++ [Value.string x_1]).toArray)
 true
 (Value.tuple
 #[Value.agg
 (arrI IntKind.u8 f_1 32 0 ++ ([Value.string x_2, Value.string x_3, Value.int IntKind.i64 x_4,
 Value.int IntKind.i64 x_5] ++ arrI IntKind.u8 f_2 16 0 ++ ([Value.int IntKind.i64 x_6, Value.string x_7,
 Value.bool x_8] ++ arrI IntKind.u8 f_3 16 0 ++ [Value.int IntKind.i64 x_9]))).toArray,
 Value.bool b])
 w') ∧
 ∀ (n_2 : Nat) (w1 : World),
 NewB W
 (Obj.cells
 #[Value.int IntKind.u8 0, Value.int IntKind.u8 0, Value.int IntKind.u8 0,
 Value.int IntKind.u8 0, Value.int IntKind.u8 0, Value.int IntKind.u8 0,
 Value.int IntKind.u8 0, Value.int IntKind.u8 0, Value.int IntKind.u8 0,
 Value.int IntKind.u8 0, Value.int IntKind.u8 0, Value.int IntKind.u8 0,
 Value.int IntKind.u8 0, Value.int IntKind.u8 0, Value.int IntKind.u8 0,
 Value.int IntKind.u8 0, Value.int IntKind.u8 0, Value.int IntKind.u8 0,
 Value.int IntKind.u8 0, Value.int IntKind.u8 0, Value.int IntKind.u8 0,
 Value.int IntKind.u8 0, Value.int IntKind.u8 0, Value.int IntKind.u8 0,
 Value.int IntKind.u8 0, Value.int IntKind.u8 0, Value.int IntKind.u8 0,
 Value.int IntKind.u8 0, Value.int IntKind.u8 0, Value.int IntKind.u8 0,
 Value.int IntKind.u8 0, Value.int IntKind.u8 0, Value.string (ByteArray.mk #[]),
 Value.string (ByteArray.mk #[]), Value.int IntKind.i64 0,
 Value.int IntKind.i64 0, Value.int IntKind.u8 0, Value.int IntKind.u8 0,
 Value.int IntKind.u8 0, Value.int IntKind.u8 0, Value.int IntKind.u8 0,
 Value.int IntKind.u8 0, Value.int IntKind.u8 0, Value.int IntKind.u8 0,
 Value.int IntKind.u8 0, Value.int IntKind.u8 0, Value.int IntKind.u8 0,
 Value.int IntKind.u8 0, Value.int IntKind.u8 0, Value.int IntKind.u8 0,
 Value.int IntKind.u8 0, Value.int IntKind.u8 0, Value.int IntKind.i64 0,
 Value.string (ByteArray.mk #[]), Value.bool false, Value.int IntKind.u8 0,
 Value.int IntKind.u8 0, Value.int IntKind.u8 0, Value.int IntKind.u8 0,
 Value.int IntKind.u8 0, Value.int IntKind.u8 0, Value.int IntKind.u8 0,
 Value.int IntKind.u8 0, Value.int IntKind.u8 0, Value.int IntKind.u8 0,
 Value.int IntKind.u8 0, Value.int IntKind.u8 0, Value.int IntKind.u8 0,
 Value.int IntKind.u8 0, Value.int IntKind.u8 0, Value.int IntKind.u8 0,
 Value.int IntKind.i64 0]
 107)
 n_2 w1 →
 S w1 ∧
 WrL w1 n_2 0 72 ∧
 ∀ (w1_1 : World),
 PutB w1 n_2 0
 (arrI IntKind.u8 f_1 32 0 ++ ([Value.string x_2, Value.string x_3, Value.int IntKind.i64 x_4,
 Value.int IntKind.i64 x_5] ++ arrI IntKind.u8 f_2 16 0 ++ ([Value.int IntKind.i64 x_6, Value.string x_7,
 Value.bool x_8] ++ arrI IntKind.u8 f_3 16 0 ++ [Value.int IntKind.i64 x_9])))
 w1_1 →
 KeptL [n_1, n] W w1_1 ∧
 bsp (decide ((↑t.size : Int) > 65536))
 (R (Ending.returned (Value.int IntKind.i64 5)) w1_1)
 (true = false ∧
 ∃ (x : Option Nat),
 w1_1.cell? (Addr.mk 0 3 none) = some (Value.map x) ∧
 ∃ (p : Option Addr),
 ∃ (n_3 : Nat),
 ∃ (c : Nat),
 LookP Tryz.prog 95 (Value.map x) (Value.string s) false
 (Value.slice p n_3 c) w1_1 ∧
 bsp ((↑n_3 : Int) == 0)
 (R (Ending.returned (Value.int IntKind.i64 33)) w1_1)
 (bsp b (R (Ending.returned (Value.int IntKind.i64 7)) w1_1)
 (true = false ∧
 ∃ (x : Int),
 (∀ (W : World),
 Loc w.heap.size
 [Blk.mk n_1 103
 (arrI IntKind.u8 i 32 0 ++ [Value.string s])
 0,
 Blk.mk n 32
 (arrI IntKind.u8 i 32 0)
 0]
 w1_1 W →
 W.cell? (Addr.mk 0 2 none) = some (Value.int IntKind.i64 x)) ∧
 true = false ∧
 ∃ (x_10 : Int),
 (∀ (W : World),
 Loc w.heap.size
 [Blk.mk n_1 103
 (arrI IntKind.u8 i 32 0 ++ [Value.string s])
 0,
 Blk.mk n 32
 (arrI IntKind.u8 i 32 0)
 0]
 w1_1 W →
 W.cell? (Addr.mk 0 0 none) =
 some (Value.int IntKind.i64 x_10)) ∧
 bsp (decide (x ≥ x_10))
 (∀ (W : World),
 Loc w.heap.size
 [Blk.mk n_1 103
 (arrI IntKind.u8 i 32 0 ++ [Value.string s])
 0,
 Blk.mk n 32
 (arrI IntKind.u8 i 32 0)
 0]
 w1_1 W →
 R (Ending.returned (Value.int IntKind.i64 9)) W)
 (true = false ∧
 ∃ (x : Option Nat),
 (∀ (W : World),
 Loc w.heap.size
 [Blk.mk n_1 103
 (arrI IntKind.u8 i 32 0 ++ [Value.string s])
 0,
 Blk.mk n 32
 (arrI IntKind.u8 i 32 0)
 0]
 w1_1 W →
 W.cell? (Addr.mk 0 4 none) = some (Value.map x)) ∧
 ∀ (W : World),
 Loc w.heap.size
 [Blk.mk n_1 103
 (arrI IntKind.u8 i 32 0 ++ [Value.string s])
 0,
 Blk.mk n 32
 (arrI IntKind.u8 i 32 0)
 0]
 w1_1 W →
 ∃ (w1 : World),
 UpdP Tryz.prog 96 (Value.map x)
 (Value.agg
 (arrI IntKind.u8 i 32 0 ++ [Value.string s]).toArray)
 (Value.agg
 (arrI IntKind.u8 i 32 0 ++ [Value.string s,
 Value.string t, Value.int IntKind.i64 now,
 Value.int IntKind.i64 0, Value.int IntKind.u8 0,
 Value.int IntKind.u8 0, Value.int IntKind.u8 0,
 Value.int IntKind.u8 0, Value.int IntKind.u8 0,
 Value.int IntKind.u8 0, Value.int IntKind.u8 0,
 Value.int IntKind.u8 0, Value.int IntKind.u8 0,
 Value.int IntKind.u8 0, Value.int IntKind.u8 0,
 Value.int IntKind.u8 0, Value.int IntKind.u8 0,
 Value.int IntKind.u8 0, Value.int IntKind.u8 0,
 Value.int IntKind.u8 0, Value.int IntKind.i64 0,
 Value.string (ByteArray.mk #[]), Value.bool false,
 Value.int IntKind.u8 0, Value.int IntKind.u8 0,
 Value.int IntKind.u8 0, Value.int IntKind.u8 0,
 Value.int IntKind.u8 0, Value.int IntKind.u8 0,
 Value.int IntKind.u8 0, Value.int IntKind.u8 0,
 Value.int IntKind.u8 0, Value.int IntKind.u8 0,
 Value.int IntKind.u8 0, Value.int IntKind.u8 0,
 Value.int IntKind.u8 0, Value.int IntKind.u8 0,
 Value.int IntKind.u8 0, Value.int IntKind.u8 0,
 Value.int IntKind.i64 0]).toArray)
 W w1 ∧
 KeptL [n_1, n] W w1 ∧
 true = false ∧
 ∃ (x : Int),
 w1.cell? (Addr.mk 0 2 none) =
 some (Value.int IntKind.i64 x) ∧
 true = false ∧
 ((∃ (u : Value),
 w1.cell? (Addr.mk 0 2 none) = some u) ∧
 w1.frozen? (Addr.mk 0 2 none) = false) ∧
 ∀ (w1_2 : World),
 PutB w1 0 2
 [Value.int IntKind.i64
 (IntKind.i64.wrap (x + 1))]
 w1_2 →
 KeptL [n_1, n] w1 w1_2 ∧
 R (Ending.returned (Value.int IntKind.i64 0))
 w1_2))))))
theorem vc_submit0 (i : Nat → Int) (s : ByteArray) (t : ByteArray) (now : Int) (w : World) (R : Ending → World → Prop) (h : VC_submit0 i s t now w R) : Calls Tryz.prog 18 ([Value.pointer
    none,
  Value.agg (arrI IntKind.u8 i 32 0).toArray, Value.string s, Value.string t,
  Value.int IntKind.i64 now] : List Value).toArray w R := by
  have e : execR2 { P := Tryz.prog, loops := [], pur := pur1, tails := [(8, 9), (17, 11)], joins := [], boxes := [] } Tryz.f18.results.toList R (Tryz.f18.body.getD .skip) (initF [Value.pointer
    none,
  Value.agg (arrI IntKind.u8 i 32 0).toArray, Value.string s, Value.string t,
  Value.int IntKind.i64
    now] (Tryz.f18.ntmps - ([Value.pointer none, Value.agg (arrI IntKind.u8 i 32 0).toArray, Value.string s,
  Value.string t, Value.int IntKind.i64 now] : List Value).length)) w = VC_submit0 i s t now w R := by kernel_rfl
  have hb : Tryz.f18.body = some (Tryz.f18.body.getD .skip) := by kernel_rfl
  exact calls_of_exec2' (P := Tryz.prog) (fn := Tryz.f18) (c := Tryz.f18.body.getD .skip) (args := [Value.pointer none,
  Value.agg (arrI IntKind.u8 i 32 0).toArray, Value.string s, Value.string t,
  Value.int IntKind.i64 now]) (w := w) (R := R) pur1_ok Tryz.func18 hb e h

def VC_claim0 (s : ByteArray) (a : Nat → Int) (now : Int) (w : World) (R : Ending → World → Prop) : Prop :=
 ∀ (n n_1 n_2 n_3 : Nat) (W : World),
 Loc w.heap.size
 [Blk.mk n_3 48
 [Value.int IntKind.u8 0, Value.int IntKind.u8 0, Value.int IntKind.u8 0, Value.int IntKind.u8 0,
 Value.int IntKind.u8 0, Value.int IntKind.u8 0, Value.int IntKind.u8 0, Value.int IntKind.u8 0,
 Value.int IntKind.u8 0, Value.int IntKind.u8 0, Value.int IntKind.u8 0, Value.int IntKind.u8 0,
 Value.int IntKind.u8 0, Value.int IntKind.u8 0, Value.int IntKind.u8 0, Value.int IntKind.u8 0,
 Value.int IntKind.u8 0, Value.int IntKind.u8 0, Value.int IntKind.u8 0, Value.int IntKind.u8 0,
 Value.int IntKind.u8 0, Value.int IntKind.u8 0, Value.int IntKind.u8 0, Value.int IntKind.u8 0,
 Value.int IntKind.u8 0, Value.int IntKind.u8 0, Value.int IntKind.u8 0, Value.int IntKind.u8 0,
 Value.int IntKind.u8 0, Value.int IntKind.u8 0, Value.int IntKind.u8 0, Value.int IntKind.u8 0,
 Value.string (ByteArray.mk #[]), Value.string (ByteArray.mk #[]), Value.int IntKind.i64 0,
 Value.int IntKind.i64 0, Value.int IntKind.u8 0, Value.int IntKind.u8 0, Value.int IntKind.u8 0,
 Value.int IntKind.u8 0, Value.int IntKind.u8 0, Value.int IntKind.u8 0, Value.int IntKind.u8 0,
 Value.int IntKind.u8 0, Value.int IntKind.u8 0, Value.int IntKind.u8 0, Value.int IntKind.u8 0,
 Value.int IntKind.u8 0, Value.int IntKind.u8 0, Value.int IntKind.u8 0, Value.int IntKind.u8 0,
 Value.int IntKind.u8 0, Value.int IntKind.i64 0, Value.string (ByteArray.mk #[])]
 2,
 Blk.mk n_2 3 [Value.int IntKind.i64 now] 2,
 Blk.mk n_1 45
 (arrI IntKind.u8 a 16 0)
 2,
 Blk.mk n 9 [Value.string s] 2]
 w W →
 CallsS Tryz.prog 48 #[Value.pointer none, Value.int IntKind.i64 now] W fun (e : Ending) (w' : World) =>
 ∃ (x : Int),
 e = Ending.returned (Value.int IntKind.i64 x) ∧
 KeptL [n_3, n_2, n_1, n] W w' ∧
 bsp (x != 0)
 (∀ (W : World),
 Loc w.heap.size
 [Blk.mk n_3 48
 [Value.int IntKind.u8 0, Value.int IntKind.u8 0, Value.int IntKind.u8 0, Value.int IntKind.u8 0,
 Value.int IntKind.u8 0, Value.int IntKind.u8 0, Value.int IntKind.u8 0, Value.int IntKind.u8 0,
 Value.int IntKind.u8 0, Value.int IntKind.u8 0, Value.int IntKind.u8 0, Value.int IntKind.u8 0,
 Value.int IntKind.u8 0, Value.int IntKind.u8 0, Value.int IntKind.u8 0, Value.int IntKind.u8 0,
 Value.int IntKind.u8 0, Value.int IntKind.u8 0, Value.int IntKind.u8 0, Value.int IntKind.u8 0,
 Value.int IntKind.u8 0, Value.int IntKind.u8 0, Value.int IntKind.u8 0, Value.int IntKind.u8 0,
 Value.int IntKind.u8 0, Value.int IntKind.u8 0, Value.int IntKind.u8 0, Value.int IntKind.u8 0,
 Value.int IntKind.u8 0, Value.int IntKind.u8 0, Value.int IntKind.u8 0, Value.int IntKind.u8 0,
 Value.string (ByteArray.mk #[]), Value.string (ByteArray.mk #[]), Value.int IntKind.i64 0,
 Value.int IntKind.i64 0, Value.int IntKind.u8 0, Value.int IntKind.u8 0, Value.int IntKind.u8 0,
 Value.int IntKind.u8 0, Value.int IntKind.u8 0, Value.int IntKind.u8 0, Value.int IntKind.u8 0,
 Value.int IntKind.u8 0, Value.int IntKind.u8 0, Value.int IntKind.u8 0, Value.int IntKind.u8 0,
 Value.int IntKind.u8 0, Value.int IntKind.u8 0, Value.int IntKind.u8 0, Value.int IntKind.u8 0,
 Value.int IntKind.u8 0, Value.int IntKind.i64 0, Value.string (ByteArray.mk #[])]
 (wrM 0),
 Blk.mk n_2 3 [Value.int IntKind.i64 now] 0,
 Blk.mk n_1 45
 (arrI IntKind.u8 a 16 0)
 0,
 Blk.mk n 9 [Value.string s] 0]
 w' W →
 R
 (Ending.returned
 (Value.tuple
 #[Value.agg
 #[Value.int IntKind.u8 0, Value.int IntKind.u8 0, Value.int IntKind.u8 0, Value.int IntKind.u8 0,
 Value.int IntKind.u8 0, Value.int IntKind.u8 0, Value.int IntKind.u8 0, Value.int IntKind.u8 0,
 Value.int IntKind.u8 0, Value.int IntKind.u8 0, Value.int IntKind.u8 0, Value.int IntKind.u8 0,
 Value.int IntKind.u8 0, Value.int IntKind.u8 0, Value.int IntKind.u8 0, Value.int IntKind.u8 0,
 Value.int IntKind.u8 0, Value.int IntKind.u8 0, Value.int IntKind.u8 0, Value.int IntKind.u8 0,
 Value.int IntKind.u8 0, Value.int IntKind.u8 0, Value.int IntKind.u8 0, Value.int IntKind.u8 0,
 Value.int IntKind.u8 0, Value.int IntKind.u8 0, Value.int IntKind.u8 0, Value.int IntKind.u8 0,
 Value.int IntKind.u8 0, Value.int IntKind.u8 0, Value.int IntKind.u8 0, Value.int IntKind.u8 0,
 Value.string (ByteArray.mk #[]), Value.string (ByteArray.mk #[]), Value.int IntKind.i64 0,
 Value.int IntKind.i64 0, Value.int IntKind.u8 0, Value.int IntKind.u8 0, Value.int IntKind.u8 0,
 Value.int IntKind.u8 0, Value.int IntKind.u8 0, Value.int IntKind.u8 0, Value.int IntKind.u8 0,
 Value.int IntKind.u8 0, Value.int IntKind.u8 0, Value.int IntKind.u8 0, Value.int IntKind.u8 0,
 Value.int IntKind.u8 0, Value.int IntKind.u8 0, Value.int IntKind.u8 0, Value.int IntKind.u8 0,
 Value.int IntKind.u8 0, Value.int IntKind.i64 0, Value.string (ByteArray.mk #[])],
 Value.int IntKind.i64 x]))
 W)
 (CallsS Tryz.prog 75
 #[Value.pointer none, Value.string s,
 Value.agg
 (arrI IntKind.u8 a 16 0).toArray]
 w' fun (e : Ending) (w'_1 : World) =>
 ∃ (x : Bool),
 e = Ending.returned (Value.bool x) ∧
 KeptL [n_3, n_2, n_1, n] w' w'_1 ∧
 bsp (!x)
 (∀ (W : World),
 Loc w.heap.size
 [Blk.mk n_3 48
 [Value.int IntKind.u8 0, Value.int IntKind.u8 0, Value.int IntKind.u8 0, Value.int IntKind.u8 0,
 Value.int IntKind.u8 0, Value.int IntKind.u8 0, Value.int IntKind.u8 0, Value.int IntKind.u8 0,
 Value.int IntKind.u8 0, Value.int IntKind.u8 0, Value.int IntKind.u8 0, Value.int IntKind.u8 0,
 Value.int IntKind.u8 0, Value.int IntKind.u8 0, Value.int IntKind.u8 0, Value.int IntKind.u8 0,
 Value.int IntKind.u8 0, Value.int IntKind.u8 0, Value.int IntKind.u8 0, Value.int IntKind.u8 0,
 Value.int IntKind.u8 0, Value.int IntKind.u8 0, Value.int IntKind.u8 0, Value.int IntKind.u8 0,
 Value.int IntKind.u8 0, Value.int IntKind.u8 0, Value.int IntKind.u8 0, Value.int IntKind.u8 0,
 Value.int IntKind.u8 0, Value.int IntKind.u8 0, Value.int IntKind.u8 0, Value.int IntKind.u8 0,
 Value.string (ByteArray.mk #[]), Value.string (ByteArray.mk #[]), Value.int IntKind.i64 0,
 Value.int IntKind.i64 0, Value.int IntKind.u8 0, Value.int IntKind.u8 0, Value.int IntKind.u8 0,
 Value.int IntKind.u8 0, Value.int IntKind.u8 0, Value.int IntKind.u8 0, Value.int IntKind.u8 0,
 Value.int IntKind.u8 0, Value.int IntKind.u8 0, Value.int IntKind.u8 0, Value.int IntKind.u8 0,
 Value.int IntKind.u8 0, Value.int IntKind.u8 0, Value.int IntKind.u8 0, Value.int IntKind.u8 0,
 Value.int IntKind.u8 0, Value.int IntKind.i64 0, Value.string (ByteArray.mk #[])]
 (wrM 0),
 Blk.mk n_2 3 [Value.int IntKind.i64 now] 0,
 Blk.mk n_1 45
 (arrI IntKind.u8 a 16 0)
 0,
 Blk.mk n 9 [Value.string s] 0]
 w'_1 W →
 R
 (Ending.returned
 (Value.tuple
 #[Value.agg
 #[Value.int IntKind.u8 0, Value.int IntKind.u8 0, Value.int IntKind.u8 0, Value.int IntKind.u8 0,
 Value.int IntKind.u8 0, Value.int IntKind.u8 0, Value.int IntKind.u8 0, Value.int IntKind.u8 0,
 Value.int IntKind.u8 0, Value.int IntKind.u8 0, Value.int IntKind.u8 0, Value.int IntKind.u8 0,
 Value.int IntKind.u8 0, Value.int IntKind.u8 0, Value.int IntKind.u8 0, Value.int IntKind.u8 0,
 Value.int IntKind.u8 0, Value.int IntKind.u8 0, Value.int IntKind.u8 0, Value.int IntKind.u8 0,
 Value.int IntKind.u8 0, Value.int IntKind.u8 0, Value.int IntKind.u8 0, Value.int IntKind.u8 0,
 Value.int IntKind.u8 0, Value.int IntKind.u8 0, Value.int IntKind.u8 0, Value.int IntKind.u8 0,
 Value.int IntKind.u8 0, Value.int IntKind.u8 0, Value.int IntKind.u8 0, Value.int IntKind.u8 0,
 Value.string (ByteArray.mk #[]), Value.string (ByteArray.mk #[]), Value.int IntKind.i64 0,
 Value.int IntKind.i64 0, Value.int IntKind.u8 0, Value.int IntKind.u8 0, Value.int IntKind.u8 0,
 Value.int IntKind.u8 0, Value.int IntKind.u8 0, Value.int IntKind.u8 0, Value.int IntKind.u8 0,
 Value.int IntKind.u8 0, Value.int IntKind.u8 0, Value.int IntKind.u8 0, Value.int IntKind.u8 0,
 Value.int IntKind.u8 0, Value.int IntKind.u8 0, Value.int IntKind.u8 0, Value.int IntKind.u8 0,
 Value.int IntKind.u8 0, Value.int IntKind.i64 0, Value.string (ByteArray.mk #[])],
 Value.int IntKind.i64 20]))
 W)
 (CallsS Tryz.prog 65
 #[Value.pointer none,
 Value.func (Fn.func 76) #[]
 #[Value.pointer (some (Addr.mk n 0 none)), Value.pointer (some (Addr.mk n_1 0 none)),
 Value.pointer (some (Addr.mk n_2 0 none))]]
 w'_1 fun (e : Ending) (w' : World) =>
 ∃ (p : Option Addr),
 ∃ (n : Nat),
 ∃ (c : Nat),
 e = Ending.returned (Value.slice p n c) ∧
 KeptL [n_3] w'_1 w' ∧
 bsp ((↑n : Int) == 0)
 (∀ (W : World),
 Loc w.heap.size
 [Blk.mk n_3 48
 [Value.int IntKind.u8 0, Value.int IntKind.u8 0, Value.int IntKind.u8 0, Value.int IntKind.u8 0,
 Value.int IntKind.u8 0, Value.int IntKind.u8 0, Value.int IntKind.u8 0, Value.int IntKind.u8 0,
 Value.int IntKind.u8 0, Value.int IntKind.u8 0, Value.int IntKind.u8 0, Value.int IntKind.u8 0,
 Value.int IntKind.u8 0, Value.int IntKind.u8 0, Value.int IntKind.u8 0, Value.int IntKind.u8 0,
 Value.int IntKind.u8 0, Value.int IntKind.u8 0, Value.int IntKind.u8 0, Value.int IntKind.u8 0,
 Value.int IntKind.u8 0, Value.int IntKind.u8 0, Value.int IntKind.u8 0, Value.int IntKind.u8 0,
 Value.int IntKind.u8 0, Value.int IntKind.u8 0, Value.int IntKind.u8 0, Value.int IntKind.u8 0,
 Value.int IntKind.u8 0, Value.int IntKind.u8 0, Value.int IntKind.u8 0, Value.int IntKind.u8 0,
 Value.string (ByteArray.mk #[]), Value.string (ByteArray.mk #[]), Value.int IntKind.i64 0,
 Value.int IntKind.i64 0, Value.int IntKind.u8 0, Value.int IntKind.u8 0,
 Value.int IntKind.u8 0, Value.int IntKind.u8 0, Value.int IntKind.u8 0, Value.int IntKind.u8 0,
 Value.int IntKind.u8 0, Value.int IntKind.u8 0, Value.int IntKind.u8 0, Value.int IntKind.u8 0,
 Value.int IntKind.u8 0, Value.int IntKind.u8 0, Value.int IntKind.u8 0, Value.int IntKind.u8 0,
 Value.int IntKind.u8 0, Value.int IntKind.u8 0, Value.int IntKind.i64 0,
 Value.string (ByteArray.mk #[])]
 (wrM 0)]
 w' W →
 R
 (Ending.returned
 (Value.tuple
 #[Value.agg
 #[Value.int IntKind.u8 0, Value.int IntKind.u8 0, Value.int IntKind.u8 0,
 Value.int IntKind.u8 0, Value.int IntKind.u8 0, Value.int IntKind.u8 0,
 Value.int IntKind.u8 0, Value.int IntKind.u8 0, Value.int IntKind.u8 0,
 Value.int IntKind.u8 0, Value.int IntKind.u8 0, Value.int IntKind.u8 0,
 Value.int IntKind.u8 0, Value.int IntKind.u8 0, Value.int IntKind.u8 0,
 Value.int IntKind.u8 0, Value.int IntKind.u8 0, Value.int IntKind.u8 0,
 Value.int IntKind.u8 0, Value.int IntKind.u8 0, Value.int IntKind.u8 0,
 Value.int IntKind.u8 0, Value.int IntKind.u8 0, Value.int IntKind.u8 0,
 Value.int IntKind.u8 0, Value.int IntKind.u8 0, Value.int IntKind.u8 0,
 Value.int IntKind.u8 0, Value.int IntKind.u8 0, Value.int IntKind.u8 0,
 Value.int IntKind.u8 0, Value.int IntKind.u8 0, Value.string (ByteArray.mk #[]),
 Value.string (ByteArray.mk #[]), Value.int IntKind.i64 0, Value.int IntKind.i64 0,
 Value.int IntKind.u8 0, Value.int IntKind.u8 0, Value.int IntKind.u8 0,
 Value.int IntKind.u8 0, Value.int IntKind.u8 0, Value.int IntKind.u8 0,
 Value.int IntKind.u8 0, Value.int IntKind.u8 0, Value.int IntKind.u8 0,
 Value.int IntKind.u8 0, Value.int IntKind.u8 0, Value.int IntKind.u8 0,
 Value.int IntKind.u8 0, Value.int IntKind.u8 0, Value.int IntKind.u8 0,
 Value.int IntKind.u8 0, Value.int IntKind.i64 0, Value.string (ByteArray.mk #[])],
 Value.int IntKind.i64 8]))
 W)
 (CallsS Tryz.prog 78 #[Value.slice p n c, Value.func (Fn.func 68) #[] #[]] w'
 fun (e : Ending) (w'_2 : World) =>
 ∃ (f : Nat → Int),
 ∃ (x : ByteArray),
 ∃ (x_1 : ByteArray),
 ∃ (x_2 : Int),
 ∃ (x_3 : Int),
 ∃ (f_1 : Nat → Int),
 ∃ (x_4 : Int),
 ∃ (x_5 : ByteArray),
 e =
 Ending.returned
 (Value.agg
 (arrI IntKind.u8 f 32 0 ++ ([Value.string x,
 Value.string x_1, Value.int IntKind.i64 x_2, Value.int IntKind.i64 x_3] ++ arrI IntKind.u8 f_1 16 0 ++ [Value.int IntKind.i64 x_4, Value.string x_5])).toArray) ∧
 KeptL [n_3] w' w'_2 ∧
 ∀ (n : Nat),
 true = false ∧
 ∃ (x_6 : Option Nat),
 (∀ (W : World),
 Loc w.heap.size
 [Blk.mk n 48
 (arrI IntKind.u8 f 32 0 ++ ([Value.string x,
 Value.string x_1, Value.int IntKind.i64 x_2, Value.int IntKind.i64 x_3] ++ arrI IntKind.u8 f_1 16 0 ++ [Value.int IntKind.i64 x_4, Value.string x_5]))
 (wrM 2),
 Blk.mk n_3 48
 [Value.int IntKind.u8 0, Value.int IntKind.u8 0, Value.int IntKind.u8 0,
 Value.int IntKind.u8 0, Value.int IntKind.u8 0, Value.int IntKind.u8 0,
 Value.int IntKind.u8 0, Value.int IntKind.u8 0, Value.int IntKind.u8 0,
 Value.int IntKind.u8 0, Value.int IntKind.u8 0, Value.int IntKind.u8 0,
 Value.int IntKind.u8 0, Value.int IntKind.u8 0, Value.int IntKind.u8 0,
 Value.int IntKind.u8 0, Value.int IntKind.u8 0, Value.int IntKind.u8 0,
 Value.int IntKind.u8 0, Value.int IntKind.u8 0, Value.int IntKind.u8 0,
 Value.int IntKind.u8 0, Value.int IntKind.u8 0, Value.int IntKind.u8 0,
 Value.int IntKind.u8 0, Value.int IntKind.u8 0, Value.int IntKind.u8 0,
 Value.int IntKind.u8 0, Value.int IntKind.u8 0, Value.int IntKind.u8 0,
 Value.int IntKind.u8 0, Value.int IntKind.u8 0, Value.string (ByteArray.mk #[]),
 Value.string (ByteArray.mk #[]), Value.int IntKind.i64 0,
 Value.int IntKind.i64 0, Value.int IntKind.u8 0, Value.int IntKind.u8 0,
 Value.int IntKind.u8 0, Value.int IntKind.u8 0, Value.int IntKind.u8 0,
 Value.int IntKind.u8 0, Value.int IntKind.u8 0, Value.int IntKind.u8 0,
 Value.int IntKind.u8 0, Value.int IntKind.u8 0, Value.int IntKind.u8 0,
 Value.int IntKind.u8 0, Value.int IntKind.u8 0, Value.int IntKind.u8 0,
 Value.int IntKind.u8 0, Value.int IntKind.u8 0, Value.int IntKind.i64 0,
 Value.string (ByteArray.mk #[])]
 0]
 w'_2 W →
 W.cell? (Addr.mk 0 4 none) = some (Value.map x_6)) ∧
 ∃ (f_2 : Nat → Int),
 (∀ (W : World),
 Loc w.heap.size
 [Blk.mk n 48
 (arrI IntKind.u8 f 32 0 ++ ([Value.string x,
 Value.string x_1, Value.int IntKind.i64 x_2, Value.int IntKind.i64 x_3] ++ arrI IntKind.u8 f_1 16 0 ++ [Value.int IntKind.i64 x_4, Value.string x_5]))
 (wrM 2),
 Blk.mk n_3 48
 [Value.int IntKind.u8 0, Value.int IntKind.u8 0, Value.int IntKind.u8 0,
 Value.int IntKind.u8 0, Value.int IntKind.u8 0, Value.int IntKind.u8 0,
 Value.int IntKind.u8 0, Value.int IntKind.u8 0, Value.int IntKind.u8 0,
 Value.int IntKind.u8 0, Value.int IntKind.u8 0, Value.int IntKind.u8 0,
 Value.int IntKind.u8 0, Value.int IntKind.u8 0, Value.int IntKind.u8 0,
 Value.int IntKind.u8 0, Value.int IntKind.u8 0, Value.int IntKind.u8 0,
 Value.int IntKind.u8 0, Value.int IntKind.u8 0, Value.int IntKind.u8 0,
 Value.int IntKind.u8 0, Value.int IntKind.u8 0, Value.int IntKind.u8 0,
 Value.int IntKind.u8 0, Value.int IntKind.u8 0, Value.int IntKind.u8 0,
 Value.int IntKind.u8 0, Value.int IntKind.u8 0, Value.int IntKind.u8 0,
 Value.int IntKind.u8 0, Value.int IntKind.u8 0,
 Value.string (ByteArray.mk #[]), Value.string (ByteArray.mk #[]),
 Value.int IntKind.i64 0, Value.int IntKind.i64 0, Value.int IntKind.u8 0,
 Value.int IntKind.u8 0, Value.int IntKind.u8 0, Value.int IntKind.u8 0,
 Value.int IntKind.u8 0, Value.int IntKind.u8 0, Value.int IntKind.u8 0,
 Value.int IntKind.u8 0, Value.int IntKind.u8 0, Value.int IntKind.u8 0,
 Value.int IntKind.u8 0, Value.int IntKind.u8 0, Value.int IntKind.u8 0,
 Value.int IntKind.u8 0, Value.int IntKind.u8 0, Value.int IntKind.u8 0,
 Value.int IntKind.i64 0, Value.string (ByteArray.mk #[])]
 0]
 w'_2 W →
 AtL W n_1 0
 (arrI IntKind.u8 f_2 16 0)) ∧
 ∃ (x_7 : Int),
 (∀ (W : World),
 Loc w.heap.size
 [Blk.mk n 48
 (arrI IntKind.u8 f 32 0 ++ ([Value.string x,
 Value.string x_1, Value.int IntKind.i64 x_2, Value.int IntKind.i64 x_3] ++ arrI IntKind.u8 f_1 16 0 ++ [Value.int IntKind.i64 x_4, Value.string x_5]))
 (wrM 2),
 Blk.mk n_3 48
 [Value.int IntKind.u8 0, Value.int IntKind.u8 0, Value.int IntKind.u8 0,
 Value.int IntKind.u8 0, Value.int IntKind.u8 0, Value.int IntKind.u8 0,
 Value.int IntKind.u8 0, Value.int IntKind.u8 0, Value.int IntKind.u8 0,
 Value.int IntKind.u8 0, Value.int IntKind.u8 0, Value.int IntKind.u8 0,
 Value.int IntKind.u8 0, Value.int IntKind.u8 0, Value.int IntKind.u8 0,
 Value.int IntKind.u8 0, Value.int IntKind.u8 0, Value.int IntKind.u8 0,
 Value.int IntKind.u8 0, Value.int IntKind.u8 0, Value.int IntKind.u8 0,
 Value.int IntKind.u8 0, Value.int IntKind.u8 0, Value.int IntKind.u8 0,
 Value.int IntKind.u8 0, Value.int IntKind.u8 0, Value.int IntKind.u8 0,
 Value.int IntKind.u8 0, Value.int IntKind.u8 0, Value.int IntKind.u8 0,
 Value.int IntKind.u8 0, Value.int IntKind.u8 0,
 Value.string (ByteArray.mk #[]), Value.string (ByteArray.mk #[]),
 Value.int IntKind.i64 0, Value.int IntKind.i64 0, Value.int IntKind.u8 0,
 Value.int IntKind.u8 0, Value.int IntKind.u8 0, Value.int IntKind.u8 0,
 Value.int IntKind.u8 0, Value.int IntKind.u8 0, Value.int IntKind.u8 0,
 Value.int IntKind.u8 0, Value.int IntKind.u8 0, Value.int IntKind.u8 0,
 Value.int IntKind.u8 0, Value.int IntKind.u8 0, Value.int IntKind.u8 0,
 Value.int IntKind.u8 0, Value.int IntKind.u8 0, Value.int IntKind.u8 0,
 Value.int IntKind.i64 0, Value.string (ByteArray.mk #[])]
 0]
 w'_2 W →
 W.cell? (Addr.mk n_2 0 none) = some (Value.int IntKind.i64 x_7)) ∧
 ∀ (W : World),
 Loc w.heap.size
 [Blk.mk n 48
 (arrI IntKind.u8 f 32 0 ++ ([Value.string x,
 Value.string x_1, Value.int IntKind.i64 x_2, Value.int IntKind.i64 x_3] ++ arrI IntKind.u8 f_1 16 0 ++ [Value.int IntKind.i64 x_4, Value.string x_5]))
 (wrM 2),
 Blk.mk n_3 48
 [Value.int IntKind.u8 0, Value.int IntKind.u8 0, Value.int IntKind.u8 0,
 Value.int IntKind.u8 0, Value.int IntKind.u8 0, Value.int IntKind.u8 0,
 Value.int IntKind.u8 0, Value.int IntKind.u8 0, Value.int IntKind.u8 0,
 Value.int IntKind.u8 0, Value.int IntKind.u8 0, Value.int IntKind.u8 0,
 Value.int IntKind.u8 0, Value.int IntKind.u8 0, Value.int IntKind.u8 0,
 Value.int IntKind.u8 0, Value.int IntKind.u8 0, Value.int IntKind.u8 0,
 Value.int IntKind.u8 0, Value.int IntKind.u8 0, Value.int IntKind.u8 0,
 Value.int IntKind.u8 0, Value.int IntKind.u8 0, Value.int IntKind.u8 0,
 Value.int IntKind.u8 0, Value.int IntKind.u8 0, Value.int IntKind.u8 0,
 Value.int IntKind.u8 0, Value.int IntKind.u8 0, Value.int IntKind.u8 0,
 Value.int IntKind.u8 0, Value.int IntKind.u8 0,
 Value.string (ByteArray.mk #[]), Value.string (ByteArray.mk #[]),
 Value.int IntKind.i64 0, Value.int IntKind.i64 0, Value.int IntKind.u8 0,
 Value.int IntKind.u8 0, Value.int IntKind.u8 0, Value.int IntKind.u8 0,
 Value.int IntKind.u8 0, Value.int IntKind.u8 0, Value.int IntKind.u8 0,
 Value.int IntKind.u8 0, Value.int IntKind.u8 0, Value.int IntKind.u8 0,
 Value.int IntKind.u8 0, Value.int IntKind.u8 0, Value.int IntKind.u8 0,
 Value.int IntKind.u8 0, Value.int IntKind.u8 0, Value.int IntKind.u8 0,
 Value.int IntKind.i64 0, Value.string (ByteArray.mk #[])]
 0]
 w'_2 W →
 ∃ (w1 : World),
 UpdP Tryz.prog 96 (Value.map x_6)
 (Value.agg
 (arrI IntKind.u8 f 32 0 ++ [Value.string x]).toArray)
 (Value.agg
 (arrI IntKind.u8 f 32 0 ++ ([Value.string x,
 Value.string x_1, Value.int IntKind.i64 x_2, Value.int IntKind.i64 x_3] ++ arrI IntKind.u8 f_1 16 0 ++ ([Value.int IntKind.i64 x_4, Value.string x_5, Value.bool true] ++ arrI IntKind.u8 f_2 16 0 ++ [Value.int IntKind.i64 x_7]))).toArray)
 W w1 ∧
 KeptL [n, n_3] W w1 ∧
 ∀ (W : World),
 Loc w.heap.size
 [Blk.mk n 48
 (arrI IntKind.u8 f 32 0 ++ ([Value.string x, Value.string x_1, Value.int IntKind.i64 x_2,
 Value.int IntKind.i64 x_3] ++ arrI IntKind.u8 f_1 16 0 ++ [Value.int IntKind.i64 x_4,
 Value.string x_5]))
 0,
 Blk.mk n_3 48
 (arrI IntKind.u8 f 32 0 ++ ([Value.string x, Value.string x_1, Value.int IntKind.i64 x_2,
 Value.int IntKind.i64 x_3] ++ arrI IntKind.u8 f_1 16 0 ++ [Value.int IntKind.i64 x_4,
 Value.string x_5]))
 (wrM 0)]
 w1 W →
 R
 (Ending.returned
 (Value.tuple
 #[Value.agg
 (arrI IntKind.u8 f 32 0 ++ ([Value.string x, Value.string x_1, Value.int IntKind.i64 x_2,
 Value.int IntKind.i64 x_3] ++ arrI IntKind.u8 f_1 16 0 ++ [Value.int IntKind.i64 x_4,
 Value.string x_5])).toArray,
 Value.int IntKind.i64 0]))
 W)))
theorem vc_claim0 (s : ByteArray) (a : Nat → Int) (now : Int) (w : World) (R : Ending → World → Prop) (h : VC_claim0 s a now w R) : Calls Tryz.prog 39 ([Value.pointer
    none,
  Value.string s, Value.agg (arrI IntKind.u8 a 16 0).toArray, Value.int IntKind.i64 now] : List Value).toArray w R := by
  have e : execR2 { P := Tryz.prog, loops := [], pur := pur1, tails := [(10, 14)], joins := [], boxes := [] } Tryz.f39.results.toList R (Tryz.f39.body.getD .skip) (initF [Value.pointer
    none,
  Value.string s, Value.agg (arrI IntKind.u8 a 16 0).toArray,
  Value.int IntKind.i64
    now] (Tryz.f39.ntmps - ([Value.pointer none, Value.string s, Value.agg (arrI IntKind.u8 a 16 0).toArray,
  Value.int IntKind.i64 now] : List Value).length)) w = VC_claim0 s a now w R := by kernel_rfl
  have hb : Tryz.f39.body = some (Tryz.f39.body.getD .skip) := by kernel_rfl
  exact calls_of_exec2' (P := Tryz.prog) (fn := Tryz.f39) (c := Tryz.f39.body.getD .skip) (args := [Value.pointer none,
  Value.string s, Value.agg (arrI IntKind.u8 a 16 0).toArray,
  Value.int IntKind.i64 now]) (w := w) (R := R) pur1_ok Tryz.func39 hb e h

def VC_release0 (i : Nat → Int) (s : ByteArray) (a : Nat → Int) (now : Int) (w : World) (R : Ending → World → Prop) : Prop :=
 ∀ (n n_1 : Nat) (W : World),
 Loc w.heap.size
 [Blk.mk n_1 45
 (arrI IntKind.u8 a 16 0)
 2,
 Blk.mk n 32
 (arrI IntKind.u8 i 32 0)
 2]
 w W →
 CallsS Tryz.prog 48 #[Value.pointer none, Value.int IntKind.i64 now] W fun (e : Ending) (w' : World) =>
 ∃ (x : Int),
 e = Ending.returned (Value.int IntKind.i64 x) ∧
 KeptL [n_1, n] W w' ∧
 bsp (x != 0) (R (Ending.returned (Value.int IntKind.i64 x)) w')
 (∀ (n_2 : Nat) (W : World),
 Loc w.heap.size
 [Blk.mk n_2 103
 (arrI IntKind.u8 i 32 0 ++ [Value.string s])
 (wrM 2),
 Blk.mk n_1 45
 (arrI IntKind.u8 a 16 0)
 0,
 Blk.mk n 32
 (arrI IntKind.u8 i 32 0)
 0]
 w' W →
 ∃ (S : World → Prop),
 S W ∧
 true = false ∧
 ∃ (x : Option Nat),
 (∀ (w' : World), S w' → w'.cell? (Addr.mk 0 4 none) = some (Value.map x)) ∧
 ∃ (f : Nat → Int),
 ∃ (x_1 : ByteArray),
 (∀ (w' : World),
 S w' →
 AtL w' n_2 0
 (arrI IntKind.u8 f 32 0 ++ [Value.string x_1])) ∧
 ∃ (f_1 : Nat → Int),
 ∃ (x_2 : ByteArray),
 ∃ (x_3 : ByteArray),
 ∃ (x_4 : Int),
 ∃ (x_5 : Int),
 ∃ (f_2 : Nat → Int),
 ∃ (x_6 : Int),
 ∃ (x_7 : ByteArray),
 ∃ (x_8 : Bool),
 ∃ (f_3 : Nat → Int),
 ∃ (x_9 : Int),
 ∃ (b : Bool),
 (∀ (w' : World),
 S w' →
 LookP Tryz.prog 96 (Value.map x)
 (Value.agg
 (arrI IntKind.u8 f 32 0 ++ [Value.string x_1]).toArray)
 true
 (Value.tuple
 #[Value.agg
 (arrI IntKind.u8 f_1 32 0 ++ ([Value.string x_2,
 Value.string x_3, Value.int IntKind.i64 x_4, Value.int IntKind.i64 x_5] ++ arrI IntKind.u8 f_2 16 0 ++ ([Value.int IntKind.i64 x_6, Value.string x_7, Value.bool x_8] ++ arrI IntKind.u8 f_3 16 0 ++ [Value.int IntKind.i64 x_9]))).toArray,
 Value.bool b])
 w') ∧
 ∀ (n_3 : Nat) (w1 : World),
 NewB W
 (Obj.cells
 #[Value.int IntKind.u8 0, Value.int IntKind.u8 0, Value.int IntKind.u8 0,
 Value.int IntKind.u8 0, Value.int IntKind.u8 0, Value.int IntKind.u8 0,
 Value.int IntKind.u8 0, Value.int IntKind.u8 0, Value.int IntKind.u8 0,
 Value.int IntKind.u8 0, Value.int IntKind.u8 0, Value.int IntKind.u8 0,
 Value.int IntKind.u8 0, Value.int IntKind.u8 0, Value.int IntKind.u8 0,
 Value.int IntKind.u8 0, Value.int IntKind.u8 0, Value.int IntKind.u8 0,
 Value.int IntKind.u8 0, Value.int IntKind.u8 0, Value.int IntKind.u8 0,
 Value.int IntKind.u8 0, Value.int IntKind.u8 0, Value.int IntKind.u8 0,
 Value.int IntKind.u8 0, Value.int IntKind.u8 0, Value.int IntKind.u8 0,
 Value.int IntKind.u8 0, Value.int IntKind.u8 0, Value.int IntKind.u8 0,
 Value.int IntKind.u8 0, Value.int IntKind.u8 0, Value.string (ByteArray.mk #[]),
 Value.string (ByteArray.mk #[]), Value.int IntKind.i64 0, Value.int IntKind.i64 0,
 Value.int IntKind.u8 0, Value.int IntKind.u8 0, Value.int IntKind.u8 0,
 Value.int IntKind.u8 0, Value.int IntKind.u8 0, Value.int IntKind.u8 0,
 Value.int IntKind.u8 0, Value.int IntKind.u8 0, Value.int IntKind.u8 0,
 Value.int IntKind.u8 0, Value.int IntKind.u8 0, Value.int IntKind.u8 0,
 Value.int IntKind.u8 0, Value.int IntKind.u8 0, Value.int IntKind.u8 0,
 Value.int IntKind.u8 0, Value.int IntKind.i64 0, Value.string (ByteArray.mk #[]),
 Value.bool false, Value.int IntKind.u8 0, Value.int IntKind.u8 0,
 Value.int IntKind.u8 0, Value.int IntKind.u8 0, Value.int IntKind.u8 0,
 Value.int IntKind.u8 0, Value.int IntKind.u8 0, Value.int IntKind.u8 0,
 Value.int IntKind.u8 0, Value.int IntKind.u8 0, Value.int IntKind.u8 0,
 Value.int IntKind.u8 0, Value.int IntKind.u8 0, Value.int IntKind.u8 0,
 Value.int IntKind.u8 0, Value.int IntKind.u8 0, Value.int IntKind.i64 0]
 107)
 n_3 w1 →
 S w1 ∧
 WrL w1 n_3 0 72 ∧
 ∀ (w1_1 : World),
 PutB w1 n_3 0
 (arrI IntKind.u8 f_1 32 0 ++ ([Value.string x_2,
 Value.string x_3, Value.int IntKind.i64 x_4, Value.int IntKind.i64 x_5] ++ arrI IntKind.u8 f_2 16 0 ++ ([Value.int IntKind.i64 x_6, Value.string x_7, Value.bool x_8] ++ arrI IntKind.u8 f_3 16 0 ++ [Value.int IntKind.i64 x_9])))
 w1_1 →
 KeptL [n_2, n_1, n] W w1_1 ∧
 ∃ (x : Int),
 gimp (!!b)
 (w1_1.cell? (Addr.mk n_3 (0 + 35) none) = some (Value.int IntKind.i64 x)) ∧
 bsp (!b || x != 0) (R (Ending.returned (Value.int IntKind.i64 8)) w1_1)
 (∃ (x : Bool),
 ∃ (f : Nat → Int),
 ∃ (x_10 : Int),
 AtL w1_1 n_3 (0 + 54)
 ([Value.bool x] ++ arrI IntKind.u8 f 16 0 ++ [Value.int IntKind.i64 x_10]) ∧
 CallsS Tryz.prog 81
 #[Value.agg
 ([Value.bool x] ++ arrI IntKind.u8 f 16 0 ++ [Value.int IntKind.i64 x_10]).toArray,
 Value.int IntKind.i64 now]
 w1_1 fun (e : Ending) (w' : World) =>
 ∃ (x : Bool),
 e = Ending.returned (Value.bool x) ∧
 KeptL [n_2, n_1, n] w1_1 w' ∧
 ∃ (f : Nat → Int),
 gimp (!!x)
 (AtL w' n_3 (0 + 55)
 (arrI IntKind.u8 f 16 0)) ∧
 ∃ (r : Bool),
 gimp (!!x)
 (EqP Tryz.prog 45
 (Value.agg
 (arrI IntKind.u8 f 16 0).toArray)
 (Value.agg
 (arrI IntKind.u8 a 16 0).toArray)
 r) ∧
 bsp (!x || !r) (R (Ending.returned (Value.int IntKind.i64 10)) w')
 (WrL w' n_3 (0 + 54) 18 ∧
 ∀ (w1 : World),
 PutB w' n_3 (0 + 54)
 [Value.bool false, Value.int IntKind.u8 0,
 Value.int IntKind.u8 0, Value.int IntKind.u8 0,
 Value.int IntKind.u8 0, Value.int IntKind.u8 0,
 Value.int IntKind.u8 0, Value.int IntKind.u8 0,
 Value.int IntKind.u8 0, Value.int IntKind.u8 0,
 Value.int IntKind.u8 0, Value.int IntKind.u8 0,
 Value.int IntKind.u8 0, Value.int IntKind.u8 0,
 Value.int IntKind.u8 0, Value.int IntKind.u8 0,
 Value.int IntKind.u8 0, Value.int IntKind.i64 0]
 w1 →
 KeptL [n_2, n_1, n] w' w1 ∧
 true = false ∧
 ∃ (x : Option Nat),
 (∀ (W : World),
 Loc w.heap.size
 [Blk.mk n_2 103
 (arrI IntKind.u8 i 32 0 ++ [Value.string s])
 0,
 Blk.mk n_1 45
 (arrI IntKind.u8 a 16 0)
 0,
 Blk.mk n 32
 (arrI IntKind.u8 i 32 0)
 0]
 w1 W →
 W.cell? (Addr.mk 0 4 none) = some (Value.map x)) ∧
 ∃ (f : Nat → Int),
 ∃ (x_11 : ByteArray),
 ∃ (x_12 : ByteArray),
 ∃ (x_13 : Int),
 ∃ (x_14 : Int),
 ∃ (f_4 : Nat → Int),
 ∃ (x_15 : Int),
 ∃ (x_16 : ByteArray),
 ∃ (x_17 : Bool),
 ∃ (f_5 : Nat → Int),
 ∃ (x_18 : Int),
 (∀ (W : World),
 Loc w.heap.size
 [Blk.mk n_2 103
 (arrI IntKind.u8 i 32 0 ++ [Value.string s])
 0,
 Blk.mk n_1 45
 (arrI IntKind.u8 a 16 0)
 0,
 Blk.mk n 32
 (arrI IntKind.u8 i 32 0)
 0]
 w1 W →
 AtL W n_3 0
 (arrI IntKind.u8 f 32 0 ++ ([Value.string x_11, Value.string x_12,
 Value.int IntKind.i64 x_13,
 Value.int IntKind.i64 x_14] ++ arrI IntKind.u8 f_4 16 0 ++ ([Value.int IntKind.i64 x_15,
 Value.string x_16, Value.bool x_17] ++ arrI IntKind.u8 f_5 16 0 ++ [Value.int IntKind.i64 x_18])))) ∧
 ∀ (W : World),
 Loc w.heap.size
 [Blk.mk n_2 103
 (arrI IntKind.u8 i 32 0 ++ [Value.string s])
 0,
 Blk.mk n_1 45
 (arrI IntKind.u8 a 16 0)
 0,
 Blk.mk n 32
 (arrI IntKind.u8 i 32 0)
 0]
 w1 W →
 ∃ (w1 : World),
 UpdP Tryz.prog 96 (Value.map x)
 (Value.agg
 (arrI IntKind.u8 i 32 0 ++ [Value.string s]).toArray)
 (Value.agg
 (arrI IntKind.u8 f 32 0 ++ ([Value.string x_11, Value.string x_12,
 Value.int IntKind.i64 x_13,
 Value.int IntKind.i64 x_14] ++ arrI IntKind.u8 f_4 16 0 ++ ([Value.int IntKind.i64 x_15,
 Value.string x_16, Value.bool x_17] ++ arrI IntKind.u8 f_5 16 0 ++ [Value.int IntKind.i64 x_18]))).toArray)
 W w1 ∧
 KeptL [n_2, n_1, n] W w1 ∧
 R
 (Ending.returned
 (Value.int IntKind.i64 0))
 w1)))
theorem vc_release0 (i : Nat → Int) (s : ByteArray) (a : Nat → Int) (now : Int) (w : World) (R : Ending → World → Prop) (h : VC_release0 i s a now w R) : Calls Tryz.prog 43 ([Value.pointer
    none,
  Value.agg (arrI IntKind.u8 i 32 0).toArray, Value.string s, Value.agg (arrI IntKind.u8 a 16 0).toArray,
  Value.int IntKind.i64 now] : List Value).toArray w R := by
  have e : execR2 { P := Tryz.prog, loops := [], pur := pur1, tails := [(5, 9), (11, 6)], joins := [], boxes := [] } Tryz.f43.results.toList R (Tryz.f43.body.getD .skip) (initF [Value.pointer
    none,
  Value.agg (arrI IntKind.u8 i 32 0).toArray, Value.string s, Value.agg (arrI IntKind.u8 a 16 0).toArray,
  Value.int IntKind.i64
    now] (Tryz.f43.ntmps - ([Value.pointer none, Value.agg (arrI IntKind.u8 i 32 0).toArray, Value.string s,
  Value.agg (arrI IntKind.u8 a 16 0).toArray,
  Value.int IntKind.i64 now] : List Value).length)) w = VC_release0 i s a now w R := by kernel_rfl
  have hb : Tryz.f43.body = some (Tryz.f43.body.getD .skip) := by kernel_rfl
  exact calls_of_exec2' (P := Tryz.prog) (fn := Tryz.f43) (c := Tryz.f43.body.getD .skip) (args := [Value.pointer none,
  Value.agg (arrI IntKind.u8 i 32 0).toArray, Value.string s, Value.agg (arrI IntKind.u8 a 16 0).toArray,
  Value.int IntKind.i64 now]) (w := w) (R := R) pur1_ok Tryz.func43 hb e h

def VC_holder0 (i : Nat → Int) (s : ByteArray) (now : Int) (w : World) (R : Ending → World → Prop) : Prop :=
 ∀ (n n_1 : Nat) (W : World),
 Loc w.heap.size
 [Blk.mk n_1 45
 [Value.int IntKind.u8 0, Value.int IntKind.u8 0, Value.int IntKind.u8 0, Value.int IntKind.u8 0,
 Value.int IntKind.u8 0, Value.int IntKind.u8 0, Value.int IntKind.u8 0, Value.int IntKind.u8 0,
 Value.int IntKind.u8 0, Value.int IntKind.u8 0, Value.int IntKind.u8 0, Value.int IntKind.u8 0,
 Value.int IntKind.u8 0, Value.int IntKind.u8 0, Value.int IntKind.u8 0, Value.int IntKind.u8 0]
 2,
 Blk.mk n 32
 (arrI IntKind.u8 i 32 0)
 2]
 w W →
 CallsS Tryz.prog 48 #[Value.pointer none, Value.int IntKind.i64 now] W fun (e : Ending) (w' : World) =>
 ∃ (x : Int),
 e = Ending.returned (Value.int IntKind.i64 x) ∧
 KeptL [n_1, n] W w' ∧
 bsp (x != 0)
 (∀ (W : World),
 Loc w.heap.size
 [Blk.mk n_1 45
 [Value.int IntKind.u8 0, Value.int IntKind.u8 0, Value.int IntKind.u8 0, Value.int IntKind.u8 0,
 Value.int IntKind.u8 0, Value.int IntKind.u8 0, Value.int IntKind.u8 0, Value.int IntKind.u8 0,
 Value.int IntKind.u8 0, Value.int IntKind.u8 0, Value.int IntKind.u8 0, Value.int IntKind.u8 0,
 Value.int IntKind.u8 0, Value.int IntKind.u8 0, Value.int IntKind.u8 0, Value.int IntKind.u8 0]
 (wrM 0),
 Blk.mk n 32
 (arrI IntKind.u8 i 32 0)
 0]
 w' W →
 R
 (Ending.returned
 (Value.tuple
 #[Value.agg
 #[Value.int IntKind.u8 0, Value.int IntKind.u8 0, Value.int IntKind.u8 0, Value.int IntKind.u8 0,
 Value.int IntKind.u8 0, Value.int IntKind.u8 0, Value.int IntKind.u8 0, Value.int IntKind.u8 0,
 Value.int IntKind.u8 0, Value.int IntKind.u8 0, Value.int IntKind.u8 0, Value.int IntKind.u8 0,
 Value.int IntKind.u8 0, Value.int IntKind.u8 0, Value.int IntKind.u8 0, Value.int IntKind.u8 0],
 Value.bool false]))
 W)
 (∀ (W : World),
 Loc w.heap.size
 [Blk.mk n_1 45
 [Value.int IntKind.u8 0, Value.int IntKind.u8 0, Value.int IntKind.u8 0, Value.int IntKind.u8 0,
 Value.int IntKind.u8 0, Value.int IntKind.u8 0, Value.int IntKind.u8 0, Value.int IntKind.u8 0,
 Value.int IntKind.u8 0, Value.int IntKind.u8 0, Value.int IntKind.u8 0, Value.int IntKind.u8 0,
 Value.int IntKind.u8 0, Value.int IntKind.u8 0, Value.int IntKind.u8 0, Value.int IntKind.u8 0]
 0,
 Blk.mk n 32
 (arrI IntKind.u8 i 32 0)
 0]
 w' W →
 ∃ (S : World → Prop),
 S W ∧
 true = false ∧
 ∃ (x : Option Nat),
 (∀ (w' : World), S w' → w'.cell? (Addr.mk 0 4 none) = some (Value.map x)) ∧
 ∃ (f : Nat → Int),
 (∀ (w' : World),
 S w' →
 AtL w' n 0
 (arrI IntKind.u8 f 32 0)) ∧
 ∃ (f_1 : Nat → Int),
 ∃ (x_1 : ByteArray),
 ∃ (x_2 : ByteArray),
 ∃ (x_3 : Int),
 ∃ (x_4 : Int),
 ∃ (f_2 : Nat → Int),
 ∃ (x_5 : Int),
 ∃ (x_6 : ByteArray),
 ∃ (x_7 : Bool),
 ∃ (f_3 : Nat → Int),
 ∃ (x_8 : Int),
 (∀ (w' : World),
 S w' →
 LookP Tryz.prog 96 (Value.map x)
 (Value.agg
 (arrI IntKind.u8 f 32 0 ++ [Value.string s]).toArray)
 false
 (Value.agg
 (arrI IntKind.u8 f_1 32 0 ++ ([Value.string x_1,
 Value.string x_2, Value.int IntKind.i64 x_3, Value.int IntKind.i64 x_4] ++ arrI IntKind.u8 f_2 16 0 ++ ([Value.int IntKind.i64 x_5, Value.string x_6, Value.bool x_7] ++ arrI IntKind.u8 f_3 16 0 ++ [Value.int IntKind.i64 x_8]))).toArray)
 w') ∧
 ∀ (n_2 : Nat) (w1 : World),
 NewB W
 (Obj.cells
 #[Value.int IntKind.u8 0, Value.int IntKind.u8 0, Value.int IntKind.u8 0,
 Value.int IntKind.u8 0, Value.int IntKind.u8 0, Value.int IntKind.u8 0,
 Value.int IntKind.u8 0, Value.int IntKind.u8 0, Value.int IntKind.u8 0,
 Value.int IntKind.u8 0, Value.int IntKind.u8 0, Value.int IntKind.u8 0,
 Value.int IntKind.u8 0, Value.int IntKind.u8 0, Value.int IntKind.u8 0,
 Value.int IntKind.u8 0, Value.int IntKind.u8 0, Value.int IntKind.u8 0,
 Value.int IntKind.u8 0, Value.int IntKind.u8 0, Value.int IntKind.u8 0,
 Value.int IntKind.u8 0, Value.int IntKind.u8 0, Value.int IntKind.u8 0,
 Value.int IntKind.u8 0, Value.int IntKind.u8 0, Value.int IntKind.u8 0,
 Value.int IntKind.u8 0, Value.int IntKind.u8 0, Value.int IntKind.u8 0,
 Value.int IntKind.u8 0, Value.int IntKind.u8 0, Value.string (ByteArray.mk #[]),
 Value.string (ByteArray.mk #[]), Value.int IntKind.i64 0, Value.int IntKind.i64 0,
 Value.int IntKind.u8 0, Value.int IntKind.u8 0, Value.int IntKind.u8 0,
 Value.int IntKind.u8 0, Value.int IntKind.u8 0, Value.int IntKind.u8 0,
 Value.int IntKind.u8 0, Value.int IntKind.u8 0, Value.int IntKind.u8 0,
 Value.int IntKind.u8 0, Value.int IntKind.u8 0, Value.int IntKind.u8 0,
 Value.int IntKind.u8 0, Value.int IntKind.u8 0, Value.int IntKind.u8 0,
 Value.int IntKind.u8 0, Value.int IntKind.i64 0, Value.string (ByteArray.mk #[]),
 Value.bool false, Value.int IntKind.u8 0, Value.int IntKind.u8 0,
 Value.int IntKind.u8 0, Value.int IntKind.u8 0, Value.int IntKind.u8 0,
 Value.int IntKind.u8 0, Value.int IntKind.u8 0, Value.int IntKind.u8 0,
 Value.int IntKind.u8 0, Value.int IntKind.u8 0, Value.int IntKind.u8 0,
 Value.int IntKind.u8 0, Value.int IntKind.u8 0, Value.int IntKind.u8 0,
 Value.int IntKind.u8 0, Value.int IntKind.u8 0, Value.int IntKind.i64 0]
 107)
 n_2 w1 →
 S w1 ∧
 WrL w1 n_2 0 72 ∧
 ∀ (w1_1 : World),
 PutB w1 n_2 0
 (arrI IntKind.u8 f_1 32 0 ++ ([Value.string x_1,
 Value.string x_2, Value.int IntKind.i64 x_3, Value.int IntKind.i64 x_4] ++ arrI IntKind.u8 f_2 16 0 ++ ([Value.int IntKind.i64 x_5, Value.string x_6, Value.bool x_7] ++ arrI IntKind.u8 f_3 16 0 ++ [Value.int IntKind.i64 x_8])))
 w1_1 →
 KeptL [n_1, n] W w1_1 ∧
 ∃ (x : Bool),
 ∃ (f : Nat → Int),
 ∃ (x_9 : Int),
 AtL w1_1 n_2 (0 + 54)
 ([Value.bool x] ++ arrI IntKind.u8 f 16 0 ++ [Value.int IntKind.i64 x_9]) ∧
 CallsS Tryz.prog 81
 #[Value.agg
 ([Value.bool x] ++ arrI IntKind.u8 f 16 0 ++ [Value.int IntKind.i64 x_9]).toArray,
 Value.int IntKind.i64 now]
 w1_1 fun (e : Ending) (w' : World) =>
 ∃ (x : Bool),
 e = Ending.returned (Value.bool x) ∧
 KeptL [n_1, n] w1_1 w' ∧
 bsp (!x)
 (∀ (W : World),
 Loc w.heap.size
 [Blk.mk n_1 45
 [Value.int IntKind.u8 0, Value.int IntKind.u8 0,
 Value.int IntKind.u8 0, Value.int IntKind.u8 0,
 Value.int IntKind.u8 0, Value.int IntKind.u8 0,
 Value.int IntKind.u8 0, Value.int IntKind.u8 0,
 Value.int IntKind.u8 0, Value.int IntKind.u8 0,
 Value.int IntKind.u8 0, Value.int IntKind.u8 0,
 Value.int IntKind.u8 0, Value.int IntKind.u8 0,
 Value.int IntKind.u8 0, Value.int IntKind.u8 0]
 (wrM 0),
 Blk.mk n 32
 (arrI IntKind.u8 i 32 0)
 0]
 w' W →
 R
 (Ending.returned
 (Value.tuple
 #[Value.agg
 #[Value.int IntKind.u8 0, Value.int IntKind.u8 0,
 Value.int IntKind.u8 0, Value.int IntKind.u8 0,
 Value.int IntKind.u8 0, Value.int IntKind.u8 0,
 Value.int IntKind.u8 0, Value.int IntKind.u8 0,
 Value.int IntKind.u8 0, Value.int IntKind.u8 0,
 Value.int IntKind.u8 0, Value.int IntKind.u8 0,
 Value.int IntKind.u8 0, Value.int IntKind.u8 0,
 Value.int IntKind.u8 0, Value.int IntKind.u8 0],
 Value.bool false]))
 W)
 (∃ (f : Nat → Int),
 AtL w' n_2 (0 + 55)
 (arrI IntKind.u8 f 16 0) ∧
 ∀ (W : World),
 Loc w.heap.size
 [Blk.mk n_1 45
 (arrI IntKind.u8 f 16 0)
 (wrM 0),
 Blk.mk n 32
 (arrI IntKind.u8 i 32 0)
 0]
 w' W →
 R
 (Ending.returned
 (Value.tuple
 #[Value.agg
 (arrI IntKind.u8 f 16 0).toArray,
 Value.bool true]))
 W))
theorem vc_holder0 (i : Nat → Int) (s : ByteArray) (now : Int) (w : World) (R : Ending → World → Prop) (h : VC_holder0 i s now w R) : Calls Tryz.prog 41 ([Value.pointer
    none,
  Value.agg (arrI IntKind.u8 i 32 0).toArray, Value.string s, Value.int IntKind.i64 now] : List Value).toArray w R := by
  have e : execR2 { P := Tryz.prog, loops := [], pur := pur1, tails := [(3, 8)], joins := [], boxes := [] } Tryz.f41.results.toList R (Tryz.f41.body.getD .skip) (initF [Value.pointer
    none,
  Value.agg (arrI IntKind.u8 i 32 0).toArray, Value.string s,
  Value.int IntKind.i64
    now] (Tryz.f41.ntmps - ([Value.pointer none, Value.agg (arrI IntKind.u8 i 32 0).toArray, Value.string s,
  Value.int IntKind.i64 now] : List Value).length)) w = VC_holder0 i s now w R := by kernel_rfl
  have hb : Tryz.f41.body = some (Tryz.f41.body.getD .skip) := by kernel_rfl
  exact calls_of_exec2' (P := Tryz.prog) (fn := Tryz.f41) (c := Tryz.f41.body.getD .skip) (args := [Value.pointer none,
  Value.agg (arrI IntKind.u8 i 32 0).toArray, Value.string s,
  Value.int IntKind.i64 now]) (w := w) (R := R) pur1_ok Tryz.func41 hb e h

def VC_approve0 (i : Nat → Int) (s : ByteArray) (a : Nat → Int) (now : Int) (w : World) (R : Ending → World → Prop) : Prop :=
 ∀ (n n_1 n_2 : Nat) (W : World),
 Loc w.heap.size
 [Blk.mk n_2 42
 [Value.int IntKind.i64 0, Value.int IntKind.u8 0, Value.int IntKind.u8 0, Value.int IntKind.u8 0,
 Value.int IntKind.u8 0, Value.int IntKind.u8 0, Value.int IntKind.u8 0, Value.int IntKind.u8 0,
 Value.int IntKind.u8 0, Value.int IntKind.u8 0, Value.int IntKind.u8 0, Value.int IntKind.u8 0,
 Value.int IntKind.u8 0, Value.int IntKind.u8 0, Value.int IntKind.u8 0, Value.int IntKind.u8 0,
 Value.int IntKind.u8 0, Value.int IntKind.u8 0, Value.int IntKind.u8 0, Value.int IntKind.u8 0,
 Value.int IntKind.u8 0, Value.int IntKind.u8 0, Value.int IntKind.u8 0, Value.int IntKind.u8 0,
 Value.int IntKind.u8 0, Value.int IntKind.u8 0, Value.int IntKind.u8 0, Value.int IntKind.u8 0,
 Value.int IntKind.u8 0, Value.int IntKind.u8 0, Value.int IntKind.u8 0, Value.int IntKind.u8 0,
 Value.int IntKind.u8 0, Value.string (ByteArray.mk #[]), Value.int IntKind.i64 0, Value.bool false,
 Value.slice none 0 0, Value.string (ByteArray.mk #[]), Value.int IntKind.i64 0, Value.int IntKind.i64 0,
 Value.int IntKind.u8 0, Value.int IntKind.u8 0, Value.int IntKind.u8 0, Value.int IntKind.u8 0,
 Value.int IntKind.u8 0, Value.int IntKind.u8 0, Value.int IntKind.u8 0, Value.int IntKind.u8 0,
 Value.int IntKind.u8 0, Value.int IntKind.u8 0, Value.int IntKind.u8 0, Value.int IntKind.u8 0,
 Value.int IntKind.u8 0, Value.int IntKind.u8 0, Value.int IntKind.u8 0, Value.int IntKind.u8 0]
 2,
 Blk.mk n_1 45
 (arrI IntKind.u8 a 16 0)
 2,
 Blk.mk n 32
 (arrI IntKind.u8 i 32 0)
 2]
 w W →
 CallsS Tryz.prog 48 #[Value.pointer none, Value.int IntKind.i64 now] W fun (e : Ending) (w' : World) =>
 ∃ (x : Int),
 e = Ending.returned (Value.int IntKind.i64 x) ∧
 KeptL [n_2, n_1, n] W w' ∧
 bsp (x != 0)
 (∀ (W : World),
 Loc w.heap.size
 [Blk.mk n_2 42
 [Value.int IntKind.i64 0, Value.int IntKind.u8 0, Value.int IntKind.u8 0, Value.int IntKind.u8 0,
 Value.int IntKind.u8 0, Value.int IntKind.u8 0, Value.int IntKind.u8 0, Value.int IntKind.u8 0,
 Value.int IntKind.u8 0, Value.int IntKind.u8 0, Value.int IntKind.u8 0, Value.int IntKind.u8 0,
 Value.int IntKind.u8 0, Value.int IntKind.u8 0, Value.int IntKind.u8 0, Value.int IntKind.u8 0,
 Value.int IntKind.u8 0, Value.int IntKind.u8 0, Value.int IntKind.u8 0, Value.int IntKind.u8 0,
 Value.int IntKind.u8 0, Value.int IntKind.u8 0, Value.int IntKind.u8 0, Value.int IntKind.u8 0,
 Value.int IntKind.u8 0, Value.int IntKind.u8 0, Value.int IntKind.u8 0, Value.int IntKind.u8 0,
 Value.int IntKind.u8 0, Value.int IntKind.u8 0, Value.int IntKind.u8 0, Value.int IntKind.u8 0,
 Value.int IntKind.u8 0, Value.string (ByteArray.mk #[]), Value.int IntKind.i64 0, Value.bool false,
 Value.slice none 0 0, Value.string (ByteArray.mk #[]), Value.int IntKind.i64 0, Value.int IntKind.i64 0,
 Value.int IntKind.u8 0, Value.int IntKind.u8 0, Value.int IntKind.u8 0, Value.int IntKind.u8 0,
 Value.int IntKind.u8 0, Value.int IntKind.u8 0, Value.int IntKind.u8 0, Value.int IntKind.u8 0,
 Value.int IntKind.u8 0, Value.int IntKind.u8 0, Value.int IntKind.u8 0, Value.int IntKind.u8 0,
 Value.int IntKind.u8 0, Value.int IntKind.u8 0, Value.int IntKind.u8 0, Value.int IntKind.u8 0]
 (wrM 0),
 Blk.mk n_1 45
 (arrI IntKind.u8 a 16 0)
 0,
 Blk.mk n 32
 (arrI IntKind.u8 i 32 0)
 0]
 w' W →
 R
 (Ending.returned
 (Value.tuple
 #[Value.agg
 #[Value.int IntKind.i64 0, Value.int IntKind.u8 0, Value.int IntKind.u8 0, Value.int IntKind.u8 0,
 Value.int IntKind.u8 0, Value.int IntKind.u8 0, Value.int IntKind.u8 0, Value.int IntKind.u8 0,
 Value.int IntKind.u8 0, Value.int IntKind.u8 0, Value.int IntKind.u8 0, Value.int IntKind.u8 0,
 Value.int IntKind.u8 0, Value.int IntKind.u8 0, Value.int IntKind.u8 0, Value.int IntKind.u8 0,
 Value.int IntKind.u8 0, Value.int IntKind.u8 0, Value.int IntKind.u8 0, Value.int IntKind.u8 0,
 Value.int IntKind.u8 0, Value.int IntKind.u8 0, Value.int IntKind.u8 0, Value.int IntKind.u8 0,
 Value.int IntKind.u8 0, Value.int IntKind.u8 0, Value.int IntKind.u8 0, Value.int IntKind.u8 0,
 Value.int IntKind.u8 0, Value.int IntKind.u8 0, Value.int IntKind.u8 0, Value.int IntKind.u8 0,
 Value.int IntKind.u8 0, Value.string (ByteArray.mk #[]), Value.int IntKind.i64 0, Value.bool false,
 Value.slice none 0 0, Value.string (ByteArray.mk #[]), Value.int IntKind.i64 0, Value.int IntKind.i64 0,
 Value.int IntKind.u8 0, Value.int IntKind.u8 0, Value.int IntKind.u8 0, Value.int IntKind.u8 0,
 Value.int IntKind.u8 0, Value.int IntKind.u8 0, Value.int IntKind.u8 0, Value.int IntKind.u8 0,
 Value.int IntKind.u8 0, Value.int IntKind.u8 0, Value.int IntKind.u8 0, Value.int IntKind.u8 0,
 Value.int IntKind.u8 0, Value.int IntKind.u8 0, Value.int IntKind.u8 0, Value.int IntKind.u8 0],
 Value.int IntKind.i64 x]))
 W)
 (CallsS Tryz.prog 50
 #[Value.pointer none,
 Value.agg
 (arrI IntKind.u8 i 32 0).toArray,
 Value.string s,
 Value.agg
 (arrI IntKind.u8 a 16 0).toArray,
 Value.int IntKind.i64 now, Value.int IntKind.i64 1, Value.string (ByteArray.mk #[])]
 w' fun (e : Ending) (w'_1 : World) =>
 ∃ (x : Int),
 e = Ending.returned (Value.int IntKind.i64 x) ∧
 KeptL [n_2, n_1, n] w' w'_1 ∧
 bsp (x != 0)
 (∀ (W : World),
 Loc w.heap.size
 [Blk.mk n_2 42
 [Value.int IntKind.i64 0, Value.int IntKind.u8 0, Value.int IntKind.u8 0, Value.int IntKind.u8 0,
 Value.int IntKind.u8 0, Value.int IntKind.u8 0, Value.int IntKind.u8 0, Value.int IntKind.u8 0,
 Value.int IntKind.u8 0, Value.int IntKind.u8 0, Value.int IntKind.u8 0, Value.int IntKind.u8 0,
 Value.int IntKind.u8 0, Value.int IntKind.u8 0, Value.int IntKind.u8 0, Value.int IntKind.u8 0,
 Value.int IntKind.u8 0, Value.int IntKind.u8 0, Value.int IntKind.u8 0, Value.int IntKind.u8 0,
 Value.int IntKind.u8 0, Value.int IntKind.u8 0, Value.int IntKind.u8 0, Value.int IntKind.u8 0,
 Value.int IntKind.u8 0, Value.int IntKind.u8 0, Value.int IntKind.u8 0, Value.int IntKind.u8 0,
 Value.int IntKind.u8 0, Value.int IntKind.u8 0, Value.int IntKind.u8 0, Value.int IntKind.u8 0,
 Value.int IntKind.u8 0, Value.string (ByteArray.mk #[]), Value.int IntKind.i64 0, Value.bool false,
 Value.slice none 0 0, Value.string (ByteArray.mk #[]), Value.int IntKind.i64 0,
 Value.int IntKind.i64 0, Value.int IntKind.u8 0, Value.int IntKind.u8 0, Value.int IntKind.u8 0,
 Value.int IntKind.u8 0, Value.int IntKind.u8 0, Value.int IntKind.u8 0, Value.int IntKind.u8 0,
 Value.int IntKind.u8 0, Value.int IntKind.u8 0, Value.int IntKind.u8 0, Value.int IntKind.u8 0,
 Value.int IntKind.u8 0, Value.int IntKind.u8 0, Value.int IntKind.u8 0, Value.int IntKind.u8 0,
 Value.int IntKind.u8 0]
 (wrM 0),
 Blk.mk n_1 45
 (arrI IntKind.u8 a 16 0)
 0,
 Blk.mk n 32
 (arrI IntKind.u8 i 32 0)
 0]
 w'_1 W →
 R
 (Ending.returned
 (Value.tuple
 #[Value.agg
 #[Value.int IntKind.i64 0, Value.int IntKind.u8 0, Value.int IntKind.u8 0, Value.int IntKind.u8 0,
 Value.int IntKind.u8 0, Value.int IntKind.u8 0, Value.int IntKind.u8 0, Value.int IntKind.u8 0,
 Value.int IntKind.u8 0, Value.int IntKind.u8 0, Value.int IntKind.u8 0, Value.int IntKind.u8 0,
 Value.int IntKind.u8 0, Value.int IntKind.u8 0, Value.int IntKind.u8 0, Value.int IntKind.u8 0,
 Value.int IntKind.u8 0, Value.int IntKind.u8 0, Value.int IntKind.u8 0, Value.int IntKind.u8 0,
 Value.int IntKind.u8 0, Value.int IntKind.u8 0, Value.int IntKind.u8 0, Value.int IntKind.u8 0,
 Value.int IntKind.u8 0, Value.int IntKind.u8 0, Value.int IntKind.u8 0, Value.int IntKind.u8 0,
 Value.int IntKind.u8 0, Value.int IntKind.u8 0, Value.int IntKind.u8 0, Value.int IntKind.u8 0,
 Value.int IntKind.u8 0, Value.string (ByteArray.mk #[]), Value.int IntKind.i64 0, Value.bool false,
 Value.slice none 0 0, Value.string (ByteArray.mk #[]), Value.int IntKind.i64 0,
 Value.int IntKind.i64 0, Value.int IntKind.u8 0, Value.int IntKind.u8 0, Value.int IntKind.u8 0,
 Value.int IntKind.u8 0, Value.int IntKind.u8 0, Value.int IntKind.u8 0, Value.int IntKind.u8 0,
 Value.int IntKind.u8 0, Value.int IntKind.u8 0, Value.int IntKind.u8 0, Value.int IntKind.u8 0,
 Value.int IntKind.u8 0, Value.int IntKind.u8 0, Value.int IntKind.u8 0, Value.int IntKind.u8 0,
 Value.int IntKind.u8 0],
 Value.int IntKind.i64 x]))
 W)
 (∀ (W : World),
 Loc w.heap.size
 [Blk.mk n_2 42
 ([Value.int IntKind.i64 2] ++ arrI IntKind.u8 i 32 0 ++ [Value.string s,
 Value.int IntKind.i64 0, Value.bool false, Value.slice none 0 0, Value.string (ByteArray.mk #[]),
 Value.int IntKind.i64 0, Value.int IntKind.i64 0, Value.int IntKind.u8 0, Value.int IntKind.u8 0,
 Value.int IntKind.u8 0, Value.int IntKind.u8 0, Value.int IntKind.u8 0, Value.int IntKind.u8 0,
 Value.int IntKind.u8 0, Value.int IntKind.u8 0, Value.int IntKind.u8 0, Value.int IntKind.u8 0,
 Value.int IntKind.u8 0, Value.int IntKind.u8 0, Value.int IntKind.u8 0, Value.int IntKind.u8 0,
 Value.int IntKind.u8 0, Value.int IntKind.u8 0])
 (wrM 0),
 Blk.mk n_1 45
 (arrI IntKind.u8 a 16 0)
 0,
 Blk.mk n 32
 (arrI IntKind.u8 i 32 0)
 0]
 w'_1 W →
 R
 (Ending.returned
 (Value.tuple
 #[Value.agg
 ([Value.int IntKind.i64 2] ++ arrI IntKind.u8 i 32 0 ++ [Value.string s, Value.int IntKind.i64 0, Value.bool false, Value.slice none 0 0,
 Value.string (ByteArray.mk #[]), Value.int IntKind.i64 0, Value.int IntKind.i64 0,
 Value.int IntKind.u8 0, Value.int IntKind.u8 0, Value.int IntKind.u8 0, Value.int IntKind.u8 0,
 Value.int IntKind.u8 0, Value.int IntKind.u8 0, Value.int IntKind.u8 0, Value.int IntKind.u8 0,
 Value.int IntKind.u8 0, Value.int IntKind.u8 0, Value.int IntKind.u8 0, Value.int IntKind.u8 0,
 Value.int IntKind.u8 0, Value.int IntKind.u8 0, Value.int IntKind.u8 0, Value.int IntKind.u8 0]).toArray,
 Value.int IntKind.i64 0]))
 W))
theorem vc_approve0 (i : Nat → Int) (s : ByteArray) (a : Nat → Int) (now : Int) (w : World) (R : Ending → World → Prop) (h : VC_approve0 i s a now w R) : Calls Tryz.prog 19 ([Value.pointer
    none,
  Value.agg (arrI IntKind.u8 i 32 0).toArray, Value.string s, Value.agg (arrI IntKind.u8 a 16 0).toArray,
  Value.int IntKind.i64 now] : List Value).toArray w R := by
  have e : execR2 { P := Tryz.prog, loops := [], pur := pur1, tails := [], joins := [], boxes := [] } Tryz.f19.results.toList R (Tryz.f19.body.getD .skip) (initF [Value.pointer
    none,
  Value.agg (arrI IntKind.u8 i 32 0).toArray, Value.string s, Value.agg (arrI IntKind.u8 a 16 0).toArray,
  Value.int IntKind.i64
    now] (Tryz.f19.ntmps - ([Value.pointer none, Value.agg (arrI IntKind.u8 i 32 0).toArray, Value.string s,
  Value.agg (arrI IntKind.u8 a 16 0).toArray,
  Value.int IntKind.i64 now] : List Value).length)) w = VC_approve0 i s a now w R := by kernel_rfl
  have hb : Tryz.f19.body = some (Tryz.f19.body.getD .skip) := by kernel_rfl
  exact calls_of_exec2' (P := Tryz.prog) (fn := Tryz.f19) (c := Tryz.f19.body.getD .skip) (args := [Value.pointer none,
  Value.agg (arrI IntKind.u8 i 32 0).toArray, Value.string s, Value.agg (arrI IntKind.u8 a 16 0).toArray,
  Value.int IntKind.i64 now]) (w := w) (R := R) pur1_ok Tryz.func19 hb e h

def VC_reject0 (i : Nat → Int) (s : ByteArray) (a : Nat → Int) (rs : ByteArray) (now : Int) (w : World) (R : Ending → World → Prop) : Prop :=
 ∀ (n n_1 : Nat) (W : World),
 Loc w.heap.size
 [Blk.mk n_1 45
 (arrI IntKind.u8 a 16 0)
 2,
 Blk.mk n 32
 (arrI IntKind.u8 i 32 0)
 2]
 w W →
 CallsS Tryz.prog 48 #[Value.pointer none, Value.int IntKind.i64 now] W fun (e : Ending) (w' : World) =>
 ∃ (x : Int),
 e = Ending.returned (Value.int IntKind.i64 x) ∧
 KeptL [n_1, n] W w' ∧
 bsp (x != 0) (R (Ending.returned (Value.int IntKind.i64 x)) w')
 (bsp (decide ((↑rs.size : Int) > 200)) (R (Ending.returned (Value.int IntKind.i64 5)) w')
 (CallsS Tryz.prog 52 #[Value.string rs] w' fun (e : Ending) (w'_1 : World) =>
 ∃ (x : Bool),
 e = Ending.returned (Value.bool x) ∧
 KeptL [n_1, n] w' w'_1 ∧
 bsp (!x) (R (Ending.returned (Value.int IntKind.i64 6)) w'_1)
 (CallsS Tryz.prog 50
 #[Value.pointer none,
 Value.agg
 (arrI IntKind.u8 i 32 0).toArray,
 Value.string s,
 Value.agg
 (arrI IntKind.u8 a 16 0).toArray,
 Value.int IntKind.i64 now, Value.int IntKind.i64 2, Value.string rs]
 w'_1 fun (e : Ending) (w' : World) =>
 ∃ (x : Int),
 e = Ending.returned (Value.int IntKind.i64 x) ∧
 KeptL [n_1, n] w'_1 w' ∧ R (Ending.returned (Value.int IntKind.i64 x)) w')))
theorem vc_reject0 (i : Nat → Int) (s : ByteArray) (a : Nat → Int) (rs : ByteArray) (now : Int) (w : World) (R : Ending → World → Prop) (h : VC_reject0 i s a rs now w R) : Calls Tryz.prog 24 ([Value.pointer
    none,
  Value.agg (arrI IntKind.u8 i 32 0).toArray, Value.string s, Value.agg (arrI IntKind.u8 a 16 0).toArray,
  Value.string rs, Value.int IntKind.i64 now] : List Value).toArray w R := by
  have e : execR2 { P := Tryz.prog, loops := [], pur := pur1, tails := [], joins := [], boxes := [] } Tryz.f24.results.toList R (Tryz.f24.body.getD .skip) (initF [Value.pointer
    none,
  Value.agg (arrI IntKind.u8 i 32 0).toArray, Value.string s, Value.agg (arrI IntKind.u8 a 16 0).toArray,
  Value.string rs,
  Value.int IntKind.i64
    now] (Tryz.f24.ntmps - ([Value.pointer none, Value.agg (arrI IntKind.u8 i 32 0).toArray, Value.string s,
  Value.agg (arrI IntKind.u8 a 16 0).toArray, Value.string rs,
  Value.int IntKind.i64 now] : List Value).length)) w = VC_reject0 i s a rs now w R := by kernel_rfl
  have hb : Tryz.f24.body = some (Tryz.f24.body.getD .skip) := by kernel_rfl
  exact calls_of_exec2' (P := Tryz.prog) (fn := Tryz.f24) (c := Tryz.f24.body.getD .skip) (args := [Value.pointer none,
  Value.agg (arrI IntKind.u8 i 32 0).toArray, Value.string s, Value.agg (arrI IntKind.u8 a 16 0).toArray,
  Value.string rs, Value.int IntKind.i64 now]) (w := w) (R := R) pur1_ok Tryz.func24 hb e h

def VC_lapse0 (now : Int) (w : World) (R : Ending → World → Prop) : Prop :=
 CallsS Tryz.prog 48 #[Value.pointer none, Value.int IntKind.i64 now] w fun (e : Ending) (w' : World) =>
 ∃ (x : Int),
 e = Ending.returned (Value.int IntKind.i64 x) ∧
 KeptL [] w w' ∧
 bsp (x != 0) (R (Ending.returned (Value.slice none 0 0)) w')
 (true = false ∧
 ∃ (x : Int),
 w'.cell? (Addr.mk 0 1 none) = some (Value.int IntKind.i64 x) ∧
 ∀ (n : Nat) (W : World),
 Loc w.heap.size
 [Blk.mk n 3 [Value.int IntKind.i64 (IntKind.i64.wrap (now - IntKind.i64.wrap (x * 1440)))] (wrM 2)] w' W →
 CallsS Tryz.prog 65
 #[Value.pointer none, Value.func (Fn.func 69) #[] #[Value.pointer (some (Addr.mk n 0 none))]] W
 fun (e : Ending) (w' : World) =>
 ∃ (p : Option Addr),
 ∃ (n : Nat),
 ∃ (c : Nat),
 e = Ending.returned (Value.slice p n c) ∧
 KeptL [] W w' ∧
 CallsS Tryz.prog 67 #[Value.slice p n c, Value.func (Fn.func 68) #[] #[]] w'
 fun (e : Ending) (w'_1 : World) =>
 e = Ending.returned (Value.tuple #[]) ∧
 KeptL [] w' w'_1 ∧
 ∃ (I : List Value → World → Prop),
 ∃ (m : List Value → World → Nat),
 I [Value.int IntKind.i64 0] w'_1 ∧
 ∀ (x : Int) (w' : World),
 I [Value.int IntKind.i64 x] w' →
 bsp (decide (x < (↑n : Int)))
 (nn true p fun (b o : Nat) =>
 (0 ≤ x ∧ x < (↑n : Int)) ∧
 ∃ (f : Nat → Int),
 ∃ (x_1 : ByteArray),
 ∃ (x_2 : ByteArray),
 ∃ (x_3 : Int),
 ∃ (x_4 : Int),
 ∃ (f_1 : Nat → Int),
 ∃ (x_5 : Int),
 ∃ (x_6 : ByteArray),
 AtL w' b (o + x.toNat * 54)
 (arrI IntKind.u8 f 32 0 ++ ([Value.string x_1,
 Value.string x_2, Value.int IntKind.i64 x_3, Value.int IntKind.i64 x_4] ++ arrI IntKind.u8 f_1 16 0 ++ [Value.int IntKind.i64 x_5, Value.string x_6])) ∧
 ∀ (n_1 : Nat) (W : World),
 Loc w.heap.size
 [Blk.mk n_1 48
 (arrI IntKind.u8 f 32 0 ++ ([Value.string x_1,
 Value.string x_2, Value.int IntKind.i64 x_3, Value.int IntKind.i64 x_4] ++ arrI IntKind.u8 f_1 16 0 ++ [Value.int IntKind.i64 x_5, Value.string x_6]))
 (wrM 2)]
 w' W →
 CallsS Tryz.prog 70
 #[Value.pointer none,
 Value.agg
 (arrI IntKind.u8 f 32 0 ++ ([Value.string x_1,
 Value.string x_2, Value.int IntKind.i64 x_3, Value.int IntKind.i64 x_4] ++ arrI IntKind.u8 f_1 16 0 ++ [Value.int IntKind.i64 x_5, Value.string x_6])).toArray,
 Value.agg
 #[Value.int IntKind.u8 0, Value.int IntKind.u8 0, Value.int IntKind.u8 0,
 Value.int IntKind.u8 0, Value.int IntKind.u8 0, Value.int IntKind.u8 0,
 Value.int IntKind.u8 0, Value.int IntKind.u8 0, Value.int IntKind.u8 0,
 Value.int IntKind.u8 0, Value.int IntKind.u8 0, Value.int IntKind.u8 0,
 Value.int IntKind.u8 0, Value.int IntKind.u8 0, Value.int IntKind.u8 0,
 Value.int IntKind.u8 0],
 Value.int IntKind.i64 now, Value.int IntKind.i64 3,
 Value.string (ByteArray.mk #[])]
 W fun (e : Ending) (w'_2 : World) =>
 ∃ (f : Nat → Int),
 ∃ (x_7 : ByteArray),
 ∃ (x_8 : ByteArray),
 ∃ (x_9 : Int),
 ∃ (x_10 : Int),
 ∃ (f_2 : Nat → Int),
 ∃ (x_11 : Int),
 ∃ (x_12 : ByteArray),
 e =
 Ending.returned
 (Value.agg
 (arrI IntKind.u8 f 32 0 ++ ([Value.string x_7, Value.string x_8, Value.int IntKind.i64 x_9,
 Value.int IntKind.i64 x_10] ++ arrI IntKind.u8 f_2 16 0 ++ [Value.int IntKind.i64 x_11,
 Value.string x_12])).toArray) ∧
 KeptL [n_1] W w'_2 ∧
 nn true p fun (b o : Nat) =>
 (0 ≤ x ∧ x < (↑n : Int)) ∧
 WrL w'_2 b (o + x.toNat * 54) 54 ∧
 ∀ (w1 : World),
 PutB w'_2 b (o + x.toNat * 54)
 (arrI IntKind.u8 f 32 0 ++ ([Value.string x_7, Value.string x_8, Value.int IntKind.i64 x_9,
 Value.int IntKind.i64 x_10] ++ arrI IntKind.u8 f_2 16 0 ++ [Value.int IntKind.i64 x_11,
 Value.string x_12]))
 w1 →
 KeptL [n_1] w'_2 w1 ∧
 I [Value.int IntKind.i64 (IntKind.i64.wrap (x + 1))] w1 ∧
 m [Value.int IntKind.i64 (IntKind.i64.wrap (x + 1))] w1 <
 m [Value.int IntKind.i64 x] w')
 (R (Ending.returned (Value.slice p n c)) w'))
theorem vc_lapse0 (now : Int) (w : World) (R : Ending → World → Prop) (h : VC_lapse0 now w R) : Calls Tryz.prog 33 ([Value.pointer
    none,
  Value.int IntKind.i64 now] : List Value).toArray w R := by
  have e : execR2 { P := Tryz.prog, loops := [(7, [(27, Ck.int IntKind.i64)])], pur := pur1, tails := [], joins := [], boxes := [] } Tryz.f33.results.toList R (Tryz.f33.body.getD .skip) (initF [Value.pointer
    none,
  Value.int IntKind.i64
    now] (Tryz.f33.ntmps - ([Value.pointer none,
  Value.int IntKind.i64 now] : List Value).length)) w = VC_lapse0 now w R := by kernel_rfl
  have hb : Tryz.f33.body = some (Tryz.f33.body.getD .skip) := by kernel_rfl
  exact calls_of_exec2' (P := Tryz.prog) (fn := Tryz.f33) (c := Tryz.f33.body.getD .skip) (args := [Value.pointer none,
  Value.int IntKind.i64 now]) (w := w) (R := R) pur1_ok Tryz.func33 hb e h

def VC_get0 (i : Nat → Int) (s : ByteArray) (w : World) (R : Ending → World → Prop) : Prop :=
 ∀ (n n_1 : Nat) (W : World),
 Loc w.heap.size
 [Blk.mk n_1 48
 [Value.int IntKind.u8 0, Value.int IntKind.u8 0, Value.int IntKind.u8 0, Value.int IntKind.u8 0,
 Value.int IntKind.u8 0, Value.int IntKind.u8 0, Value.int IntKind.u8 0, Value.int IntKind.u8 0,
 Value.int IntKind.u8 0, Value.int IntKind.u8 0, Value.int IntKind.u8 0, Value.int IntKind.u8 0,
 Value.int IntKind.u8 0, Value.int IntKind.u8 0, Value.int IntKind.u8 0, Value.int IntKind.u8 0,
 Value.int IntKind.u8 0, Value.int IntKind.u8 0, Value.int IntKind.u8 0, Value.int IntKind.u8 0,
 Value.int IntKind.u8 0, Value.int IntKind.u8 0, Value.int IntKind.u8 0, Value.int IntKind.u8 0,
 Value.int IntKind.u8 0, Value.int IntKind.u8 0, Value.int IntKind.u8 0, Value.int IntKind.u8 0,
 Value.int IntKind.u8 0, Value.int IntKind.u8 0, Value.int IntKind.u8 0, Value.int IntKind.u8 0,
 Value.string (ByteArray.mk #[]), Value.string (ByteArray.mk #[]), Value.int IntKind.i64 0,
 Value.int IntKind.i64 0, Value.int IntKind.u8 0, Value.int IntKind.u8 0, Value.int IntKind.u8 0,
 Value.int IntKind.u8 0, Value.int IntKind.u8 0, Value.int IntKind.u8 0, Value.int IntKind.u8 0,
 Value.int IntKind.u8 0, Value.int IntKind.u8 0, Value.int IntKind.u8 0, Value.int IntKind.u8 0,
 Value.int IntKind.u8 0, Value.int IntKind.u8 0, Value.int IntKind.u8 0, Value.int IntKind.u8 0,
 Value.int IntKind.u8 0, Value.int IntKind.i64 0, Value.string (ByteArray.mk #[])]
 (wrM 2),
 Blk.mk n 32
 (arrI IntKind.u8 i 32 0)
 2]
 w W →
 R
 (Ending.returned
 (Value.tuple
 #[Value.agg
 #[Value.int IntKind.u8 0, Value.int IntKind.u8 0, Value.int IntKind.u8 0, Value.int IntKind.u8 0,
 Value.int IntKind.u8 0, Value.int IntKind.u8 0, Value.int IntKind.u8 0, Value.int IntKind.u8 0,
 Value.int IntKind.u8 0, Value.int IntKind.u8 0, Value.int IntKind.u8 0, Value.int IntKind.u8 0,
 Value.int IntKind.u8 0, Value.int IntKind.u8 0, Value.int IntKind.u8 0, Value.int IntKind.u8 0,
 Value.int IntKind.u8 0, Value.int IntKind.u8 0, Value.int IntKind.u8 0, Value.int IntKind.u8 0,
 Value.int IntKind.u8 0, Value.int IntKind.u8 0, Value.int IntKind.u8 0, Value.int IntKind.u8 0,
 Value.int IntKind.u8 0, Value.int IntKind.u8 0, Value.int IntKind.u8 0, Value.int IntKind.u8 0,
 Value.int IntKind.u8 0, Value.int IntKind.u8 0, Value.int IntKind.u8 0, Value.int IntKind.u8 0,
 Value.string (ByteArray.mk #[]), Value.string (ByteArray.mk #[]), Value.int IntKind.i64 0,
 Value.int IntKind.i64 0, Value.int IntKind.u8 0, Value.int IntKind.u8 0, Value.int IntKind.u8 0,
 Value.int IntKind.u8 0, Value.int IntKind.u8 0, Value.int IntKind.u8 0, Value.int IntKind.u8 0,
 Value.int IntKind.u8 0, Value.int IntKind.u8 0, Value.int IntKind.u8 0, Value.int IntKind.u8 0,
 Value.int IntKind.u8 0, Value.int IntKind.u8 0, Value.int IntKind.u8 0, Value.int IntKind.u8 0,
 Value.int IntKind.u8 0, Value.int IntKind.i64 0, Value.string (ByteArray.mk #[])],
 Value.bool false]))
 W
theorem vc_get0 (i : Nat → Int) (s : ByteArray) (w : World) (R : Ending → World → Prop) (h : VC_get0 i s w R) : Calls Tryz.prog 21 ([Value.pointer
    none,
  Value.agg (arrI IntKind.u8 i 32 0).toArray, Value.string s] : List Value).toArray w R := by
  have e : execR2 { P := Tryz.prog, loops := [], pur := pur1, tails := [(3, 11)], joins := [], boxes := [] } Tryz.f21.results.toList R (Tryz.f21.body.getD .skip) (initF [Value.pointer
    none,
  Value.agg (arrI IntKind.u8 i 32 0).toArray,
  Value.string
    s] (Tryz.f21.ntmps - ([Value.pointer none, Value.agg (arrI IntKind.u8 i 32 0).toArray,
  Value.string s] : List Value).length)) w = VC_get0 i s w R := by kernel_rfl
  have hb : Tryz.f21.body = some (Tryz.f21.body.getD .skip) := by kernel_rfl
  exact calls_of_exec2' (P := Tryz.prog) (fn := Tryz.f21) (c := Tryz.f21.body.getD .skip) (args := [Value.pointer none,
  Value.agg (arrI IntKind.u8 i 32 0).toArray, Value.string s]) (w := w) (R := R) pur1_ok Tryz.func21 hb e h

def VC_selected0 (f : FuncId) (fa : Array Value) (fb : Array Value) (w : World) (R : Ending → World → Prop) : Prop :=
 R (Ending.returned (Value.slice none 0 0)) w
theorem vc_selected0 (f : FuncId) (fa : Array Value) (fb : Array Value) (w : World) (R : Ending → World → Prop) (h : VC_selected0 f fa fb w R) : Calls Tryz.prog 65 ([Value.pointer
    none,
  Value.func (Fn.func f) fa fb] : List Value).toArray w R := by
  have e : execR2 { P := Tryz.prog, loops := [(5, [(5, Ck.slice)])], pur := pur1, tails := [], joins := [], boxes := [], rngs := [(14, 96)] } Tryz.f65.results.toList R (Tryz.f65.body.getD .skip) (initF [Value.pointer
    none,
  Value.func (Fn.func f) fa
    fb] (Tryz.f65.ntmps - ([Value.pointer none,
  Value.func (Fn.func f) fa fb] : List Value).length)) w = VC_selected0 f fa fb w R := by kernel_rfl
  have hb : Tryz.f65.body = some (Tryz.f65.body.getD .skip) := by kernel_rfl
  exact calls_of_exec2' (P := Tryz.prog) (fn := Tryz.f65) (c := Tryz.f65.body.getD .skip) (args := [Value.pointer none,
  Value.func (Fn.func f) fa fb]) (w := w) (R := R) pur1_ok Tryz.func65 hb e h

def VC_list0 (s : ByteArray) (st : Int) (w : World) (R : Ending → World → Prop) : Prop :=
 ∀ (n n_1 : Nat) (W : World),
 Loc w.heap.size [Blk.mk n_1 3 [Value.int IntKind.i64 st] 2, Blk.mk n 9 [Value.string s] 2] w W →
 CallsS Tryz.prog 65
 #[Value.pointer none,
 Value.func (Fn.func 66) #[] #[Value.pointer (some (Addr.mk n 0 none)), Value.pointer (some (Addr.mk n_1 0 none))]]
 W fun (e : Ending) (w' : World) =>
 ∃ (p : Option Addr),
 ∃ (n : Nat),
 ∃ (c : Nat),
 e = Ending.returned (Value.slice p n c) ∧
 KeptL [] W w' ∧
 CallsS Tryz.prog 67 #[Value.slice p n c, Value.func (Fn.func 68) #[] #[]] w' fun (e : Ending) (w'_1 : World) =>
 e = Ending.returned (Value.tuple #[]) ∧ KeptL [] w' w'_1 ∧ R (Ending.returned (Value.slice p n c)) w'_1
theorem vc_list0 (s : ByteArray) (st : Int) (w : World) (R : Ending → World → Prop) (h : VC_list0 s st w R) : Calls Tryz.prog 32 ([Value.pointer
    none,
  Value.string s, Value.int IntKind.i64 st] : List Value).toArray w R := by
  have e : execR2 { P := Tryz.prog, loops := [], pur := pur1, tails := [], joins := [], boxes := [] } Tryz.f32.results.toList R (Tryz.f32.body.getD .skip) (initF [Value.pointer
    none,
  Value.string s,
  Value.int IntKind.i64
    st] (Tryz.f32.ntmps - ([Value.pointer none, Value.string s,
  Value.int IntKind.i64 st] : List Value).length)) w = VC_list0 s st w R := by kernel_rfl
  have hb : Tryz.f32.body = some (Tryz.f32.body.getD .skip) := by kernel_rfl
  exact calls_of_exec2' (P := Tryz.prog) (fn := Tryz.f32) (c := Tryz.f32.body.getD .skip) (args := [Value.pointer none,
  Value.string s, Value.int IntKind.i64 st]) (w := w) (R := R) pur1_ok Tryz.func32 hb e h

def VC_count0 (s : ByteArray) (st : Int) (w : World) (R : Ending → World → Prop) : Prop :=
 CallsS Tryz.prog 32 #[Value.pointer none, Value.string s, Value.int IntKind.i64 st] w fun (e : Ending) (w' : World) =>
 ∃ (p : Option Addr),
 ∃ (n : Nat),
 ∃ (c : Nat),
 e = Ending.returned (Value.slice p n c) ∧ KeptL [] w w' ∧ R (Ending.returned (Value.int IntKind.i64 (↑n : Int))) w'
theorem vc_count0 (s : ByteArray) (st : Int) (w : World) (R : Ending → World → Prop) (h : VC_count0 s st w R) : Calls Tryz.prog 15 ([Value.pointer
    none,
  Value.string s, Value.int IntKind.i64 st] : List Value).toArray w R := by
  have e : execR2 { P := Tryz.prog, loops := [], pur := pur1, tails := [], joins := [], boxes := [] } Tryz.f15.results.toList R (Tryz.f15.body.getD .skip) (initF [Value.pointer
    none,
  Value.string s,
  Value.int IntKind.i64
    st] (Tryz.f15.ntmps - ([Value.pointer none, Value.string s,
  Value.int IntKind.i64 st] : List Value).length)) w = VC_count0 s st w R := by kernel_rfl
  have hb : Tryz.f15.body = some (Tryz.f15.body.getD .skip) := by kernel_rfl
  exact calls_of_exec2' (P := Tryz.prog) (fn := Tryz.f15) (c := Tryz.f15.body.getD .skip) (args := [Value.pointer none,
  Value.string s, Value.int IntKind.i64 st]) (w := w) (R := R) pur1_ok Tryz.func15 hb e h

def VC_forget0 (bf : Int) (w : World) (R : Ending → World → Prop) : Prop :=
 ∀ (n : Nat) (W : World),
 Loc w.heap.size [Blk.mk n 3 [Value.int IntKind.i64 bf] 2] w W →
 CallsS Tryz.prog 65 #[Value.pointer none, Value.func (Fn.func 82) #[] #[Value.pointer (some (Addr.mk n 0 none))]] W
 fun (e : Ending) (w' : World) =>
 ∃ (p : Option Addr),
 ∃ (n : Nat),
 ∃ (c : Nat),
 e = Ending.returned (Value.slice p n c) ∧
 KeptL [] W w' ∧
 ∃ (I : List Value → World → Prop),
 ∃ (m : List Value → World → Nat),
 I [Value.int IntKind.i64 0] w' ∧
 ∀ (x : Int) (w' : World),
 I [Value.int IntKind.i64 x] w' →
 bsp (decide (x < (↑n : Int)))
 (nn true p fun (b o : Nat) =>
 (0 ≤ x ∧ x < (↑n : Int)) ∧
 ∃ (f : Nat → Int),
 ∃ (x_1 : ByteArray),
 ∃ (x_2 : ByteArray),
 ∃ (x_3 : Int),
 ∃ (x_4 : Int),
 ∃ (f_1 : Nat → Int),
 ∃ (x_5 : Int),
 ∃ (x_6 : ByteArray),
 AtL w' b (o + x.toNat * 54)
 (arrI IntKind.u8 f 32 0 ++ ([Value.string x_1, Value.string x_2,
 Value.int IntKind.i64 x_3, Value.int IntKind.i64 x_4] ++ arrI IntKind.u8 f_1 16 0 ++ [Value.int IntKind.i64 x_5, Value.string x_6])) ∧
 ∀ (n : Nat),
 true = false ∧
 ∃ (x_7 : Option Nat),
 (∀ (W : World),
 Loc w.heap.size
 [Blk.mk n 48
 (arrI IntKind.u8 f 32 0 ++ ([Value.string x_1,
 Value.string x_2, Value.int IntKind.i64 x_3, Value.int IntKind.i64 x_4] ++ arrI IntKind.u8 f_1 16 0 ++ [Value.int IntKind.i64 x_5, Value.string x_6]))
 (wrM 2)]
 w' W →
 W.cell? (Addr.mk 0 4 none) = some (Value.map x_7)) ∧
 ∀ (W : World),
 Loc w.heap.size
 [Blk.mk n 48
 (arrI IntKind.u8 f 32 0 ++ ([Value.string x_1,
 Value.string x_2, Value.int IntKind.i64 x_3, Value.int IntKind.i64 x_4] ++ arrI IntKind.u8 f_1 16 0 ++ [Value.int IntKind.i64 x_5, Value.string x_6]))
 (wrM 2)]
 w' W →
 ∃ (w1 : World),
 BltP Tryz.prog Builtin.delete [96, 103]
 [Value.map x_7,
 Value.agg
 (arrI IntKind.u8 f 32 0 ++ [Value.string x_1]).toArray]
 W w1 ∧
 KeptL [n] W w1 ∧
 I [Value.int IntKind.i64 (IntKind.i64.wrap (x + 1))] w1 ∧
 m [Value.int IntKind.i64 (IntKind.i64.wrap (x + 1))] w1 <
 m [Value.int IntKind.i64 x] w')
 (R (Ending.returned (Value.int IntKind.i64 (↑n : Int))) w')
theorem vc_forget0 (bf : Int) (w : World) (R : Ending → World → Prop) (h : VC_forget0 bf w R) : Calls Tryz.prog 44 ([Value.pointer
    none,
  Value.int IntKind.i64 bf] : List Value).toArray w R := by
  have e : execR2 { P := Tryz.prog, loops := [(3, [(13, Ck.int IntKind.i64)])], pur := pur1, tails := [(5, 9)], joins := [], boxes := [] } Tryz.f44.results.toList R (Tryz.f44.body.getD .skip) (initF [Value.pointer
    none,
  Value.int IntKind.i64
    bf] (Tryz.f44.ntmps - ([Value.pointer none,
  Value.int IntKind.i64 bf] : List Value).length)) w = VC_forget0 bf w R := by kernel_rfl
  have hb : Tryz.f44.body = some (Tryz.f44.body.getD .skip) := by kernel_rfl
  exact calls_of_exec2' (P := Tryz.prog) (fn := Tryz.f44) (c := Tryz.f44.body.getD .skip) (args := [Value.pointer none,
  Value.int IntKind.i64 bf]) (w := w) (R := R) pur1_ok Tryz.func44 hb e h

def VC_clone0 (w : World) (R : Ending → World → Prop) : Prop :=
 R (Ending.returned (Value.pointer none)) w
theorem vc_clone0 (w : World) (R : Ending → World → Prop) (h : VC_clone0 w R) : Calls Tryz.prog 45 ([Value.pointer
    none] : List Value).toArray w R := by
  have e : execR2 { P := Tryz.prog, loops := [(6, [])], pur := pur1, tails := [(8, 4), (10, 6)], joins := [], boxes := [], rngs := [(17, 95)] } Tryz.f45.results.toList R (Tryz.f45.body.getD .skip) (initF [Value.pointer
    none] (Tryz.f45.ntmps - ([Value.pointer none] : List Value).length)) w = VC_clone0 w R := by kernel_rfl
  have hb : Tryz.f45.body = some (Tryz.f45.body.getD .skip) := by kernel_rfl
  exact calls_of_exec2' (P := Tryz.prog) (fn := Tryz.f45) (c := Tryz.f45.body.getD .skip) (args := [Value.pointer
    none]) (w := w) (R := R) pur1_ok Tryz.func45 hb e h

def VC_equal0 (w : World) (R : Ending → World → Prop) : Prop :=
 R (Ending.returned (Value.bool ((none : Option Addr).isNone && (none : Option Addr).isNone))) w
theorem vc_equal0 (w : World) (R : Ending → World → Prop) (h : VC_equal0 w R) : Calls Tryz.prog 46 ([Value.pointer none,
  Value.pointer none] : List Value).toArray w R := by
  have e : execR2 { P := Tryz.prog, loops := [], pur := pur1, tails := [(3, 29)], joins := [], boxes := [] } Tryz.f46.results.toList R (Tryz.f46.body.getD .skip) (initF [Value.pointer
    none,
  Value.pointer
    none] (Tryz.f46.ntmps - ([Value.pointer none,
  Value.pointer none] : List Value).length)) w = VC_equal0 w R := by kernel_rfl
  have hb : Tryz.f46.body = some (Tryz.f46.body.getD .skip) := by kernel_rfl
  exact calls_of_exec2' (P := Tryz.prog) (fn := Tryz.f46) (c := Tryz.f46.body.getD .skip) (args := [Value.pointer none,
  Value.pointer none]) (w := w) (R := R) pur1_ok Tryz.func46 hb e h

def VC_lname (n : Int) (w : World) (R : Ending → World → Prop) : Prop :=
 ∀ (n_1 : Nat) (W : World),
 Loc w.heap.size
 [Blk.mk n_1 9
 [Value.string (ByteArray.mk #[103]), Value.string (ByteArray.mk #[103]), Value.string (ByteArray.mk #[97, 46, 98]),
 Value.string (ByteArray.mk #[103]), Value.string (ByteArray.mk #[104]), Value.string (ByteArray.mk #[]),
 Value.string (ByteArray.mk #[71])]
 2]
 w W →
 (0 ≤ n.tmod 7 ∧ n.tmod 7 < (↑7 : Int)) ∧
 ∃ (x : ByteArray),
 W.cell? (Addr.mk n_1 (0 + (n.tmod 7).toNat) none) = some (Value.string x) ∧ R (Ending.returned (Value.string x)) W
theorem vc_lname (n : Int) (w : World) (R : Ending → World → Prop) (h : VC_lname n w R) : Calls Tryz.prog 30 ([Value.int
    IntKind.u8 n] : List Value).toArray w R := by
  have e : execR2 { P := Tryz.prog, loops := [], pur := pur1, tails := [], joins := [], boxes := [] } Tryz.f30.results.toList R (Tryz.f30.body.getD .skip) (initF [Value.int
    IntKind.u8 n] (Tryz.f30.ntmps - ([Value.int IntKind.u8 n] : List Value).length)) w = VC_lname n w R := by kernel_rfl
  have hb : Tryz.f30.body = some (Tryz.f30.body.getD .skip) := by kernel_rfl
  exact calls_of_exec2' (P := Tryz.prog) (fn := Tryz.f30) (c := Tryz.f30.body.getD .skip) (args := [Value.int IntKind.u8
    n]) (w := w) (R := R) pur1_ok Tryz.func30 hb e h

def VC_lid (n : Int) (w : World) (R : Ending → World → Prop) : Prop :=
 ∀ (n_1 : Nat) (W : World),
 Loc w.heap.size
 [Blk.mk n_1 32
 [Value.int IntKind.u8 0, Value.int IntKind.u8 0, Value.int IntKind.u8 0, Value.int IntKind.u8 0,
 Value.int IntKind.u8 0, Value.int IntKind.u8 0, Value.int IntKind.u8 0, Value.int IntKind.u8 0,
 Value.int IntKind.u8 0, Value.int IntKind.u8 0, Value.int IntKind.u8 0, Value.int IntKind.u8 0,
 Value.int IntKind.u8 0, Value.int IntKind.u8 0, Value.int IntKind.u8 0, Value.int IntKind.u8 0,
 Value.int IntKind.u8 0, Value.int IntKind.u8 0, Value.int IntKind.u8 0, Value.int IntKind.u8 0,
 Value.int IntKind.u8 0, Value.int IntKind.u8 0, Value.int IntKind.u8 0, Value.int IntKind.u8 0,
 Value.int IntKind.u8 0, Value.int IntKind.u8 0, Value.int IntKind.u8 0, Value.int IntKind.u8 0,
 Value.int IntKind.u8 0, Value.int IntKind.u8 0, Value.int IntKind.u8 0, Value.int IntKind.u8 (n.tmod 6)]
 (wrM 2)]
 w W →
 R
 (Ending.returned
 (Value.agg
 #[Value.int IntKind.u8 0, Value.int IntKind.u8 0, Value.int IntKind.u8 0, Value.int IntKind.u8 0,
 Value.int IntKind.u8 0, Value.int IntKind.u8 0, Value.int IntKind.u8 0, Value.int IntKind.u8 0,
 Value.int IntKind.u8 0, Value.int IntKind.u8 0, Value.int IntKind.u8 0, Value.int IntKind.u8 0,
 Value.int IntKind.u8 0, Value.int IntKind.u8 0, Value.int IntKind.u8 0, Value.int IntKind.u8 0,
 Value.int IntKind.u8 0, Value.int IntKind.u8 0, Value.int IntKind.u8 0, Value.int IntKind.u8 0,
 Value.int IntKind.u8 0, Value.int IntKind.u8 0, Value.int IntKind.u8 0, Value.int IntKind.u8 0,
 Value.int IntKind.u8 0, Value.int IntKind.u8 0, Value.int IntKind.u8 0, Value.int IntKind.u8 0,
 Value.int IntKind.u8 0, Value.int IntKind.u8 0, Value.int IntKind.u8 0, Value.int IntKind.u8 (n.tmod 6)]))
 W
theorem vc_lid (n : Int) (w : World) (R : Ending → World → Prop) (h : VC_lid n w R) : Calls Tryz.prog 29 ([Value.int
    IntKind.u8 n] : List Value).toArray w R := by
  have e : execR2 { P := Tryz.prog, loops := [], pur := pur1, tails := [], joins := [], boxes := [] } Tryz.f29.results.toList R (Tryz.f29.body.getD .skip) (initF [Value.int
    IntKind.u8 n] (Tryz.f29.ntmps - ([Value.int IntKind.u8 n] : List Value).length)) w = VC_lid n w R := by kernel_rfl
  have hb : Tryz.f29.body = some (Tryz.f29.body.getD .skip) := by kernel_rfl
  exact calls_of_exec2' (P := Tryz.prog) (fn := Tryz.f29) (c := Tryz.f29.body.getD .skip) (args := [Value.int IntKind.u8
    n]) (w := w) (R := R) pur1_ok Tryz.func29 hb e h

def VC_lauthor (n : Int) (w : World) (R : Ending → World → Prop) : Prop :=
 ∀ (n_1 : Nat) (W : World),
 Loc w.heap.size
 [Blk.mk n_1 45
 [Value.int IntKind.u8 0, Value.int IntKind.u8 0, Value.int IntKind.u8 0, Value.int IntKind.u8 0,
 Value.int IntKind.u8 0, Value.int IntKind.u8 0, Value.int IntKind.u8 0, Value.int IntKind.u8 0,
 Value.int IntKind.u8 0, Value.int IntKind.u8 0, Value.int IntKind.u8 0, Value.int IntKind.u8 0,
 Value.int IntKind.u8 0, Value.int IntKind.u8 0, Value.int IntKind.u8 0, Value.int IntKind.u8 (n.tmod 4)]
 (wrM 2)]
 w W →
 R
 (Ending.returned
 (Value.agg
 #[Value.int IntKind.u8 0, Value.int IntKind.u8 0, Value.int IntKind.u8 0, Value.int IntKind.u8 0,
 Value.int IntKind.u8 0, Value.int IntKind.u8 0, Value.int IntKind.u8 0, Value.int IntKind.u8 0,
 Value.int IntKind.u8 0, Value.int IntKind.u8 0, Value.int IntKind.u8 0, Value.int IntKind.u8 0,
 Value.int IntKind.u8 0, Value.int IntKind.u8 0, Value.int IntKind.u8 0, Value.int IntKind.u8 (n.tmod 4)]))
 W
theorem vc_lauthor (n : Int) (w : World) (R : Ending → World → Prop) (h : VC_lauthor n w R) : Calls Tryz.prog 20 ([Value.int
    IntKind.u8 n] : List Value).toArray w R := by
  have e : execR2 { P := Tryz.prog, loops := [], pur := pur1, tails := [], joins := [], boxes := [] } Tryz.f20.results.toList R (Tryz.f20.body.getD .skip) (initF [Value.int
    IntKind.u8
    n] (Tryz.f20.ntmps - ([Value.int IntKind.u8 n] : List Value).length)) w = VC_lauthor n w R := by kernel_rfl
  have hb : Tryz.f20.body = some (Tryz.f20.body.getD .skip) := by kernel_rfl
  exact calls_of_exec2' (P := Tryz.prog) (fn := Tryz.f20) (c := Tryz.f20.body.getD .skip) (args := [Value.int IntKind.u8
    n]) (w := w) (R := R) pur1_ok Tryz.func20 hb e h

end Go.Proofs.YtfacflbmlfbeeaaGreatDoor

