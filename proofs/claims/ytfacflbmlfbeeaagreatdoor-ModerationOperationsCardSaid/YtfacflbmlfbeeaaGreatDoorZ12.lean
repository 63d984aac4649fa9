/- The formulas of functions by the symbolic evaluator, and that each gives the call's contract. Written by a program (gen.py). No condition. -/
import Derived.Test.YtfacflbmlfbeeaaGreatDoorProg
import Derived.Test.YtfacflbmlfbeeaaGreatDoorZ02
import Derived.Test.YtfacflbmlfbeeaaGreatDoorZ04
import Derived.Test.YtfacflbmlfbeeaaGreatDoorZ03
import Derived.KernelRfl
import Derived.Test.YtfacflbmlfbeeaaGreatDoorZ11
import Derived.Test.YtfacflbmlfbeeaaGreatDoorZ05
namespace Go.Proofs.YtfacflbmlfbeeaaGreatDoor
set_option maxRecDepth 100000
set_option linter.unusedVariables false

def VC_ceq (k : Int) (f : Nat -> Int) (g : ByteArray) (w : World) (R : Ending -> World -> Prop) : Prop := ∀ (n n_1 : Nat), ∃ (f_1 : Nat -> Int), gimp (k == k) (∀ (W : World), Loc w.heap.size [Blk.mk n_1 42 ([Value.int .i64 k] ++ arrI .u8 f 32 0 ++ [Value.string g, .int .i64 0, .bool false, .slice none 0 0, .string (ByteArray.mk #[]), .int .i64 0, .int .i64 0, .int .u8 0, .int .u8 0, .int .u8 0, .int .u8 0, .int .u8 0, .int .u8 0, .int .u8 0, .int .u8 0, .int .u8 0, .int .u8 0, .int .u8 0, .int .u8 0, .int .u8 0, .int .u8 0, .int .u8 0, .int .u8 0]) 2, Blk.mk n 42 ([Value.int .i64 k] ++ arrI .u8 f 32 0 ++ [Value.string g, .int .i64 0, .bool false, .slice none 0 0, .string (ByteArray.mk #[]), .int .i64 0, .int .i64 0, .int .u8 0, .int .u8 0, .int .u8 0, .int .u8 0, .int .u8 0, .int .u8 0, .int .u8 0, .int .u8 0, .int .u8 0, .int .u8 0, .int .u8 0,
 .int .u8 0, .int .u8 0, .int .u8 0, .int .u8 0, .int .u8 0]) 2] w W -> AtL W n (0 + 1) (arrI .u8 f_1 32 0)) /\ ∃ (f_2 : Nat -> Int), gimp (k == k) (∀ (W : World), Loc w.heap.size [Blk.mk n_1 42 ([Value.int .i64 k] ++ arrI .u8 f 32 0 ++ [Value.string g, .int .i64 0, .bool false, .slice none 0 0, .string (ByteArray.mk #[]), .int .i64 0, .int .i64 0, .int .u8 0, .int .u8 0, .int .u8 0, .int .u8 0, .int .u8 0, .int .u8 0, .int .u8 0, .int .u8 0, .int .u8 0, .int .u8 0, .int .u8 0, .int .u8 0, .int .u8 0, .int .u8 0, .int .u8 0, .int .u8 0]) 2, Blk.mk n 42 ([Value.int .i64 k] ++ arrI .u8 f 32 0 ++ [Value.string g, .int .i64 0, .bool false, .slice none 0 0, .string (ByteArray.mk #[]), .int .i64 0, .int .i64 0, .int .u8 0, .int .u8 0, .int .u8 0, .int .u8 0, .int .u8 0, .int .u8 0, .int .u8 0, .int .u8 0, .int .u8 0, .int .u8 0, .int .u8 0, .int .u8 0, .int .u8 0, .int .u8 0,
 .int .u8 0, .int .u8 0]) 2] w W -> AtL W n_1 (0 + 1) (arrI .u8 f_2 32 0)) /\ ∃ (r : Bool), gimp (k == k) (EqP Tryz.prog 32 (.agg (arrI .u8 f_1 32 0).toArray) (.agg (arrI .u8 f_2 32 0).toArray) r) /\ ∃ (x : ByteArray), gimp (k == k && r) (∀ (W : World), Loc w.heap.size [Blk.mk n_1 42 ([Value.int .i64 k] ++ arrI .u8 f 32 0 ++ [Value.string g, .int .i64 0, .bool false, .slice none 0 0, .string (ByteArray.mk #[]), .int .i64 0, .int .i64 0, .int .u8 0, .int .u8 0, .int .u8 0, .int .u8 0, .int .u8 0, .int .u8 0, .int .u8 0, .int .u8 0, .int .u8 0, .int .u8 0, .int .u8 0, .int .u8 0, .int .u8 0, .int .u8 0, .int .u8 0, .int .u8 0]) 2, Blk.mk n 42 ([Value.int .i64 k] ++ arrI .u8 f 32 0 ++ [Value.string g, .int .i64 0, .bool false, .slice none 0 0, .string (ByteArray.mk #[]), .int .i64 0, .int .i64 0, .int .u8 0, .int .u8 0, .int .u8 0, .int .u8 0, .int .u8 0, .int .u8 0,
 .int .u8 0, .int .u8 0, .int .u8 0, .int .u8 0, .int .u8 0, .int .u8 0, .int .u8 0, .int .u8 0, .int .u8 0, .int .u8 0]) 2] w W -> W.cell? (Addr.mk n (0 + 33) none) = some (.string x)) /\ ∃ (x_1 : ByteArray), gimp (k == k && r) (∀ (W : World), Loc w.heap.size [Blk.mk n_1 42 ([Value.int .i64 k] ++ arrI .u8 f 32 0 ++ [Value.string g, .int .i64 0, .bool false, .slice none 0 0, .string (ByteArray.mk #[]), .int .i64 0, .int .i64 0, .int .u8 0, .int .u8 0, .int .u8 0, .int .u8 0, .int .u8 0, .int .u8 0, .int .u8 0, .int .u8 0, .int .u8 0, .int .u8 0, .int .u8 0, .int .u8 0, .int .u8 0, .int .u8 0, .int .u8 0, .int .u8 0]) 2, Blk.mk n 42 ([Value.int .i64 k] ++ arrI .u8 f 32 0 ++ [Value.string g, .int .i64 0, .bool false, .slice none 0 0, .string (ByteArray.mk #[]), .int .i64 0, .int .i64 0, .int .u8 0, .int .u8 0, .int .u8 0, .int .u8 0, .int .u8 0, .int .u8 0,
 .int .u8 0, .int .u8 0, .int .u8 0, .int .u8 0, .int .u8 0, .int .u8 0, .int .u8 0, .int .u8 0, .int .u8 0, .int .u8 0]) 2] w W -> W.cell? (Addr.mk n_1 (0 + 33) none) = some (.string x_1)) /\ ∃ (x_2 : Int), gimp (k == k && r && x.toList == x_1.toList) (∀ (W : World), Loc w.heap.size [Blk.mk n_1 42 ([Value.int .i64 k] ++ arrI .u8 f 32 0 ++ [Value.string g, .int .i64 0, .bool false, .slice none 0 0, .string (ByteArray.mk #[]), .int .i64 0, .int .i64 0, .int .u8 0, .int .u8 0, .int .u8 0, .int .u8 0, .int .u8 0, .int .u8 0, .int .u8 0, .int .u8 0, .int .u8 0, .int .u8 0, .int .u8 0, .int .u8 0, .int .u8 0, .int .u8 0, .int .u8 0, .int .u8 0]) 2, Blk.mk n 42 ([Value.int .i64 k] ++ arrI .u8 f 32 0 ++ [Value.string g, .int .i64 0, .bool false, .slice none 0 0, .string (ByteArray.mk #[]), .int .i64 0, .int .i64 0, .int .u8 0, .int .u8 0, .int .u8 0, .int .u8 0,
 .int .u8 0, .int .u8 0, .int .u8 0, .int .u8 0, .int .u8 0, .int .u8 0, .int .u8 0, .int .u8 0, .int .u8 0, .int .u8 0, .int .u8 0, .int .u8 0]) 2] w W -> W.cell? (Addr.mk n (0 + 34) none) = some (.int .i64 x_2)) /\ ∃ (x_3 : Int), gimp (k == k && r && x.toList == x_1.toList) (∀ (W : World), Loc w.heap.size [Blk.mk n_1 42 ([Value.int .i64 k] ++ arrI .u8 f 32 0 ++ [Value.string g, .int .i64 0, .bool false, .slice none 0 0, .string (ByteArray.mk #[]), .int .i64 0, .int .i64 0, .int .u8 0, .int .u8 0, .int .u8 0, .int .u8 0, .int .u8 0, .int .u8 0, .int .u8 0, .int .u8 0, .int .u8 0, .int .u8 0, .int .u8 0, .int .u8 0, .int .u8 0, .int .u8 0, .int .u8 0, .int .u8 0]) 2, Blk.mk n 42 ([Value.int .i64 k] ++ arrI .u8 f 32 0 ++ [Value.string g, .int .i64 0, .bool false, .slice none 0 0, .string (ByteArray.mk #[]), .int .i64 0, .int .i64 0, .int .u8 0, .int .u8 0, .int .u8 0, .int .u8 0,
 .int .u8 0, .int .u8 0, .int .u8 0, .int .u8 0, .int .u8 0, .int .u8 0, .int .u8 0, .int .u8 0, .int .u8 0, .int .u8 0, .int .u8 0, .int .u8 0]) 2] w W -> W.cell? (Addr.mk n_1 (0 + 34) none) = some (.int .i64 x_3)) /\ ∃ (x_4 : Bool), gimp (k == k && r && x.toList == x_1.toList && x_2 == x_3) (∀ (W : World), Loc w.heap.size [Blk.mk n_1 42 ([Value.int .i64 k] ++ arrI .u8 f 32 0 ++ [Value.string g, .int .i64 0, .bool false, .slice none 0 0, .string (ByteArray.mk #[]), .int .i64 0, .int .i64 0, .int .u8 0, .int .u8 0, .int .u8 0, .int .u8 0, .int .u8 0, .int .u8 0, .int .u8 0, .int .u8 0, .int .u8 0, .int .u8 0, .int .u8 0, .int .u8 0, .int .u8 0, .int .u8 0, .int .u8 0, .int .u8 0]) 2, Blk.mk n 42 ([Value.int .i64 k] ++ arrI .u8 f 32 0 ++ [Value.string g, .int .i64 0, .bool false, .slice none 0 0, .string (ByteArray.mk #[]), .int .i64 0, .int .i64 0,
 .int .u8 0, .int .u8 0, .int .u8 0, .int .u8 0, .int .u8 0, .int .u8 0, .int .u8 0, .int .u8 0, .int .u8 0, .int .u8 0, .int .u8 0, .int .u8 0, .int .u8 0, .int .u8 0, .int .u8 0, .int .u8 0]) 2] w W -> W.cell? (Addr.mk n (0 + 35) none) = some (.bool x_4)) /\ ∃ (x_5 : Bool), gimp (k == k && r && x.toList == x_1.toList && x_2 == x_3) (∀ (W : World), Loc w.heap.size [Blk.mk n_1 42 ([Value.int .i64 k] ++ arrI .u8 f 32 0 ++ [Value.string g, .int .i64 0, .bool false, .slice none 0 0, .string (ByteArray.mk #[]), .int .i64 0, .int .i64 0, .int .u8 0, .int .u8 0, .int .u8 0, .int .u8 0, .int .u8 0, .int .u8 0, .int .u8 0, .int .u8 0, .int .u8 0, .int .u8 0, .int .u8 0, .int .u8 0, .int .u8 0, .int .u8 0, .int .u8 0, .int .u8 0]) 2, Blk.mk n 42 ([Value.int .i64 k] ++ arrI .u8 f 32 0 ++ [Value.string g, .int .i64 0, .bool false, .slice none 0 0,
 .string (ByteArray.mk #[]), .int .i64 0, .int .i64 0, .int .u8 0, .int .u8 0, .int .u8 0, .int .u8 0, .int .u8 0, .int .u8 0, .int .u8 0, .int .u8 0, .int .u8 0, .int .u8 0, .int .u8 0, .int .u8 0, .int .u8 0, .int .u8 0, .int .u8 0, .int .u8 0]) 2] w W -> W.cell? (Addr.mk n_1 (0 + 35) none) = some (.bool x_5)) /\ ∃ (p : Option Addr) (n_2 : Nat) (c : Nat), gimp (k == k && r && x.toList == x_1.toList && x_2 == x_3 && x_4 == x_5) (∀ (W : World), Loc w.heap.size [Blk.mk n_1 42 ([Value.int .i64 k] ++ arrI .u8 f 32 0 ++ [Value.string g, .int .i64 0, .bool false, .slice none 0 0, .string (ByteArray.mk #[]), .int .i64 0, .int .i64 0, .int .u8 0, .int .u8 0, .int .u8 0, .int .u8 0, .int .u8 0, .int .u8 0, .int .u8 0, .int .u8 0, .int .u8 0, .int .u8 0, .int .u8 0, .int .u8 0, .int .u8 0, .int .u8 0, .int .u8 0, .int .u8 0]) 2, Blk.mk n 42
 ([Value.int .i64 k] ++ arrI .u8 f 32 0 ++ [Value.string g, .int .i64 0, .bool false, .slice none 0 0, .string (ByteArray.mk #[]), .int .i64 0, .int .i64 0, .int .u8 0, .int .u8 0, .int .u8 0, .int .u8 0, .int .u8 0, .int .u8 0, .int .u8 0, .int .u8 0, .int .u8 0, .int .u8 0, .int .u8 0, .int .u8 0, .int .u8 0, .int .u8 0, .int .u8 0, .int .u8 0]) 2] w W -> W.cell? (Addr.mk n (0 + 36) none) = some (.slice p n_2 c)) /\ ∃ (p_1 : Option Addr) (n_3 : Nat) (c_1 : Nat), gimp (k == k && r && x.toList == x_1.toList && x_2 == x_3 && x_4 == x_5) (∀ (W : World), Loc w.heap.size [Blk.mk n_1 42 ([Value.int .i64 k] ++ arrI .u8 f 32 0 ++ [Value.string g, .int .i64 0, .bool false, .slice none 0 0, .string (ByteArray.mk #[]), .int .i64 0, .int .i64 0, .int .u8 0, .int .u8 0, .int .u8 0, .int .u8 0, .int .u8 0, .int .u8 0, .int .u8 0, .int .u8 0, .int .u8 0, .int .u8 0, .int .u8 0, .int .u8 0,
 .int .u8 0, .int .u8 0, .int .u8 0, .int .u8 0]) 2, Blk.mk n 42 ([Value.int .i64 k] ++ arrI .u8 f 32 0 ++ [Value.string g, .int .i64 0, .bool false, .slice none 0 0, .string (ByteArray.mk #[]), .int .i64 0, .int .i64 0, .int .u8 0, .int .u8 0, .int .u8 0, .int .u8 0, .int .u8 0, .int .u8 0, .int .u8 0, .int .u8 0, .int .u8 0, .int .u8 0, .int .u8 0, .int .u8 0, .int .u8 0, .int .u8 0, .int .u8 0, .int .u8 0]) 2] w W -> W.cell? (Addr.mk n_1 (0 + 36) none) = some (.slice p_1 n_3 c_1)) /\ ∀ (W : World), Loc w.heap.size [Blk.mk n_1 42 ([Value.int .i64 k] ++ arrI .u8 f 32 0 ++ [Value.string g, .int .i64 0, .bool false, .slice none 0 0, .string (ByteArray.mk #[]), .int .i64 0, .int .i64 0, .int .u8 0, .int .u8 0, .int .u8 0, .int .u8 0, .int .u8 0, .int .u8 0, .int .u8 0, .int .u8 0, .int .u8 0, .int .u8 0, .int .u8 0, .int .u8 0, .int .u8 0, .int .u8 0, .int .u8 0, .int .u8 0]) 2,
 Blk.mk n 42 ([Value.int .i64 k] ++ arrI .u8 f 32 0 ++ [Value.string g, .int .i64 0, .bool false, .slice none 0 0, .string (ByteArray.mk #[]), .int .i64 0, .int .i64 0, .int .u8 0, .int .u8 0, .int .u8 0, .int .u8 0, .int .u8 0, .int .u8 0, .int .u8 0, .int .u8 0, .int .u8 0, .int .u8 0, .int .u8 0, .int .u8 0, .int .u8 0, .int .u8 0, .int .u8 0, .int .u8 0]) 2] w W -> bsp (k == k && r && x.toList == x_1.toList && x_2 == x_3 && x_4 == x_5) (CallsS Tryz.prog 51 #[.slice p n_2 c, .slice p_1 n_3 c_1] W fun (e : Ending) (w' : World) => ∃ (x : Bool), e = .returned (.bool x) /\ KeptL [n_1, n] W w' /\ ∃ (x_6 : ByteArray), gimp (true && x) (w'.cell? (Addr.mk n (0 + 37) none) = some (.string x_6)) /\ ∃ (x_7 : ByteArray), gimp (true && x) (w'.cell? (Addr.mk n_1 (0 + 37) none) = some (.string x_7)) /\ ∃ (x_8 : Int), gimp (true && x && x_6.toList == x_7.toList)
 (w'.cell? (Addr.mk n (0 + 38) none) = some (.int .i64 x_8)) /\ ∃ (x_9 : Int), gimp (true && x && x_6.toList == x_7.toList) (w'.cell? (Addr.mk n_1 (0 + 38) none) = some (.int .i64 x_9)) /\ ∃ (x_10 : Int) (f : Nat -> Int), gimp (true && x && x_6.toList == x_7.toList && x_8 == x_9) (AtL w' n (0 + 39) ([Value.int .i64 x_10] ++ arrI .u8 f 16 0)) /\ ∃ (x_11 : Int) (f_3 : Nat -> Int), gimp (true && x && x_6.toList == x_7.toList && x_8 == x_9) (AtL w' n_1 (0 + 39) ([Value.int .i64 x_11] ++ arrI .u8 f_3 16 0)) /\ ∃ (r : Bool), gimp (true && x && x_6.toList == x_7.toList && x_8 == x_9) (EqP Tryz.prog 40 (.agg ([Value.int .i64 x_10] ++ arrI .u8 f 16 0).toArray) (.agg ([Value.int .i64 x_11] ++ arrI .u8 f_3 16 0).toArray) r) /\ R (.returned (.bool (true && x && x_6.toList == x_7.toList && x_8 == x_9 && r))) w') (KeptL [n_1, n] W W /\ ∃ (x : ByteArray), True /\ ∃ (x_6 : ByteArray), True /\
 ∃ (x_7 : Int), True /\ ∃ (x_8 : Int), True /\ ∃ (x_9 : Int) (f : Nat -> Int), True /\ ∃ (x_10 : Int) (f : Nat -> Int), True /\ ∃ (r : Bool), True /\ R (.returned (.bool (false && x.toList == x_6.toList && x_7 == x_8 && r))) W)
theorem vc_ceq (k : Int) (f : Nat -> Int) (g : ByteArray) (w : World) (R : Ending -> World -> Prop) (h : VC_ceq k f g w R) : Calls Tryz.prog 22 ([Value.agg ([Value.int .i64 k] ++ (arrI .u8 f 32 0 ++ ([Value.string g, .int .i64 0, .bool false, .slice none 0 0, .string { data := #[] }, .int .i64 0, .int .i64 0] ++ arrI .u8 (fun x => 0) 16 0))).toArray, .agg ([Value.int .i64 k] ++ (arrI .u8 f 32 0 ++ ([Value.string g, .int .i64 0, .bool false, .slice none 0 0, .string { data := #[] }, .int .i64 0, .int .i64 0] ++ arrI .u8 (fun x => 0) 16 0))).toArray] : List Value).toArray w R :=
 calls_of_exec2' (loops := []) (tails := []) (joins := []) (boxes := []) (rngs := []) (c := Tryz.f22.body.getD .skip) pur1_ok Tryz.func22 (by kernel_rfl) (by kernel_rfl) h

end Go.Proofs.YtfacflbmlfbeeaaGreatDoor

/- The formulas of functions by the symbolic evaluator, and that each gives the call's contract. Written by a program (gen.py). No condition. -/
namespace Go.Proofs.YtfacflbmlfbeeaaGreatDoor
set_option maxRecDepth 100000
set_option linter.unusedVariables false

end Go.Proofs.YtfacflbmlfbeeaaGreatDoor

/- Chapter 39: the contract of ModerationCommands. Bytes are bytes; texts are not too long; the library's variable MaxLen holds a number. -/
namespace Go.Proofs.YtfacflbmlfbeeaaGreatDoor
open Go.RowKit Go.Sort Go.Maps

/-! ### Commands are compared -/
set_option maxRecDepth 100000 in
theorem pubEq : EqP Tryz.prog 40 (.agg (([.int .i64 0] : List Value) ++ arrI .u8 (fun _ => 0) 16 0).toArray) (.agg (([.int .i64 0] : List Value) ++ arrI .u8 (fun _ => 0) 16 0).toArray) true := ⟨fun w => by kernel_rfl, by kernel_rfl, _, _, rfl, rfl⟩
set_option maxRecDepth 100000 in
set_option maxHeartbeats 4000000 in
theorem ceq_any (k : Int) (f : Nat → Int) (hf : BY f) (g : ByteArray) (w : World) : Calls Tryz.prog 22 #[.agg (apC k f g).toArray, .agg (apC k f g).toArray] w fun e w' => e = .returned (.bool true) ∧ K0 w w' := by
  refine vc_ceq k f g w _ (fun n n1 => ?_)
  refine ⟨f, gimp_intro fun _ W hW => AtL_block (hW.cells 1 rfl) rfl, f, gimp_intro fun _ W hW => AtL_block (hW.cells 0 rfl) rfl, _, gimp_intro fun _ => idEqF hf hf, g, gimp_intro fun _ W hW => cell_at (hW.cells 1 rfl) rfl, g, gimp_intro fun _ W hW => cell_at (hW.cells 0 rfl) rfl, 0, gimp_intro fun _ W hW => cell_at (hW.cells 1 rfl) rfl, 0, gimp_intro fun _ W hW => cell_at (hW.cells 0 rfl) rfl, false, gimp_intro fun _ W hW => cell_at (hW.cells 1 rfl) rfl, false, gimp_intro fun _ W hW => cell_at (hW.cells 0 rfl) rfl, none, 0, 0, gimp_intro fun _ W hW => cell_at (hW.cells 1 rfl) rfl, none, 0, 0, gimp_intro fun _ W hW => cell_at (hW.cells 0 rfl) rfl, fun W hW => bsp_intro (fun _ => ?_) (fun h => by simp at h)⟩
  have kW : K0 w W := hW.kk rfl
  have c0 := hW.cells 0 rfl
  have c1 := hW.cells 1 rfl
  clear hW
  refine ⟨(aequal_any [] [] none 0 none 0 W RowA.nil RowA.nil (fun m h => by cases h) (fun m h => by cases h) (by decide)).mono fun e w1 ⟨he, k1⟩ => ⟨_, he, .of_k0 k1, ?_⟩⟩
  have d0 := k1.blk c0 (fun h => h)
  have d1 := k1.blk c1 (fun h => h)
  refine ⟨⟨#[]⟩, gimp_intro fun _ => cell_at d1 rfl, ⟨#[]⟩, gimp_intro fun _ => cell_at d0 rfl, 0, gimp_intro fun _ => cell_at d1 rfl, 0, gimp_intro fun _ => cell_at d0 rfl, 0, fun _ => 0, gimp_intro fun _ => AtL_block d1 rfl, 0, fun _ => 0, gimp_intro fun _ => AtL_block d0 rfl, true, gimp_intro fun _ => pubEq, ?_, kW.trans k1⟩
  simp

/-! ### What stands in the queue -/
structure Q1 (q : Qu) (k : Ky) (e : En) : Prop where
  ok : q.OK
  ln : q.es.length ≤ 10000
  en : aget q.es k = some e
  md : ∀ c, c = 1 ∨ c = 2 → isMB (q.md kG) (auN c) = true
end Go.Proofs.YtfacflbmlfbeeaaGreatDoor

/- Chapter 39: the contract of ModerationCommands. Bytes are bytes; texts are not too long; the library's variable MaxLen holds a number. -/
namespace Go.Proofs.YtfacflbmlfbeeaaGreatDoor
open Go.RowKit Go.Sort Go.Maps

section
variable {w0 w w' : World} {b mb eb m : Nat} {q : Qu} {M : Mo} {P : Pl}
theorem SW.off (h : SW w0 w b mb eb m q M P) {N : Nat → Prop} {t : TypeId} (hk : Kp N w w') (hN : ∀ k, N k → w0.heap.size ≤ k ∧ ∃ c f, w.heap[k]? = some (.cells c t f)) (ht : (t == 57 || t == 93 || t == 91 || t == 45) = false) (hq : (t == 98) = false) : SW w0 w' b mb eb m q M P := by
  have no : ∀ {k : Nat} {c : Array Value} {t' : TypeId} {f : Nat × Nat}, w.heap[k]? = some (.cells c t' f) → (t == t') = false → ¬ N k := fun hc hne hn => by
    obtain ⟨_, c', f', hc'⟩ := hN _ hn
    rw [hc] at hc'
    cases hc'
    simp at hne
  have nm : ∀ {k : Nat} {es : Array MapEntry} {c : Nat}, w.heap[k]? = some (.map es c) → ¬ N k := fun hc hn => by
    obtain ⟨_, c', f', hc'⟩ := hN _ hn
    rw [hc] at hc'
    cases hc'
  have ta : (t == 45) = false := by
    simp only [Bool.or_eq_false_iff] at ht
    exact ht.2
  have n1 : ¬ N mb := by obtain ⟨es, c', hb, _⟩ := h.mq.mm.blk; exact nm hb
  have n2 : ¬ N eb := by obtain ⟨es, c', hb, _⟩ := h.mq.me.blk; exact nm hb
  refine ⟨⟨hk.blk h.mq.st (no h.mq.st hq), h.mq.mm.kp hk n1, h.mq.me.kp hk n2, fun g x hx => (h.mq.row g x hx).ty (h.qs g x hx) hk (fun k c f hc => no hc ta), h.mq.ne, h.mq.nz⟩, fun g x hx => (h.qs g x hx).kp hk (fun k c f hc => no hc ta), h.mr.off hk (fun k hn => (hN k hn).2) ht, h.k.fresh hk (fun i hi hn => ?_), h.gb, h.gm, h.ge⟩
  have := (hN i hn).1
  omega
end
/-- Blocks of cells that are no queue are kept. -/
def KQ (w w' : World) : Prop := w.heap.size ≤ w'.heap.size ∧ ∀ (k : Nat) (c : Array Value) (t : TypeId) (f : Nat × Nat), w.heap[k]? = some (.cells c t f) → (t == 98) = false → w'.heap[k]? = some (.cells c t f)
theorem Mq.kq {w w' : World} {b mb eb : Nat} {q : Qu} (h : Mq w b mb eb q) (hk : Kp (QB b mb eb) w w') : KQ w w' := ⟨hk.size, fun _ _ _ _ hc ht => hk.blk hc (h.not_ty hc ht)⟩
end Go.Proofs.YtfacflbmlfbeeaaGreatDoor

/- Chapter 39: what an operation keeps; small facts for the law's do. Generic or as said. -/
namespace Go.Proofs.YtfacflbmlfbeeaaGreatDoor
open Go.RowKit Go.Sort Go.Maps

/-- Blocks of cells that belong to no queue and to no model are kept. -/
def nQM (t : TypeId) : Bool := t == 98 || t == 57 || t == 93 || t == 91
def KD (w w' : World) : Prop := w.heap.size ≤ w'.heap.size ∧ ∀ (k : Nat) (c : Array Value) (t : TypeId) (f : Nat × Nat), w.heap[k]? = some (.cells c t f) → nQM t = false → w'.heap[k]? = some (.cells c t f)
section
variable {w w1 w2 w' : World} {b mb eb B : Nat} {q : Qu}
theorem KD.refl (w : World) : KD w w := ⟨Nat.le_refl _, fun _ _ _ _ h _ => h⟩
theorem KD.trans (h : KD w w1) (k : KD w1 w2) : KD w w2 := ⟨Nat.le_trans h.1 k.1, fun i c t f hc ht => k.2 i c t f (h.2 i c t f hc ht) ht⟩
theorem KD.k0 (h : K0 w w') : KD w w' := ⟨h.size, fun _ _ _ _ hc _ => h.blk hc (fun h => h)⟩
theorem Mq.kd (h : Mq w b mb eb q) (hk : Kp (QB b mb eb) w w') : KD w w' := ⟨hk.size, fun _ _ _ _ hc ht => hk.blk hc (h.not_ty hc (by
  unfold nQM at ht
  simp only [Bool.or_eq_false_iff] at ht
  exact ht.1.1.1))⟩
theorem KD.mf (hk : Kp (MF w B) w w') : KD w w' := ⟨hk.size, fun _ _ _ _ hc ht => hk.blk hc (mf_no hc (by
  unfold nQM at ht
  simp only [Bool.or_eq_false_iff] at ht ⊢
  exact ⟨⟨ht.1.1.2, ht.1.2⟩, ht.2⟩))⟩
theorem KD.kept (h : KD w w') {ns : List Nat} (hn : ∀ z ∈ ns, ∃ c t f, w.heap[z]? = some (.cells c t f) ∧ nQM t = false) : KeptL ns w w' := ⟨h.1, fun z hz _ => by
  obtain ⟨c, t, f, hc, ht⟩ := hn z hz
  rw [hc, h.2 z c t f hc ht]⟩
theorem KD.own (h : KD w w') {base L n c : Nat} {p : Option Addr} {e : TypeId} {xs : List Value} (ho : w.ownsRow base e L (.slice p n c) n xs) (he : nQM e = false) : w'.ownsRow base e L (.slice p n c) n xs := by
  refine ⟨ho.1, ?_⟩
  rcases ho.2 with h1 | ⟨g, cap, cur, hv, hb, hg, h4⟩
  · exact .inl h1
  · exact .inr ⟨g, cap, cur, hv, hb, h.2 g _ _ _ hg he, h4⟩
end
/-- The blocks of an operation, its identity and its author stand. -/
def DS39 (n n1 n2 : Nat) (C : List Value) (i a : Int) (w : World) : Prop := w.heap[n]? = some (.cells C.toArray 66 (0, 0)) ∧ w.heap[n1]? = some (.cells (arrI .u8 (idN i) 32 0).toArray 32 (0, 0)) ∧ w.heap[n2]? = some (.cells (arrI .u8 (auN a) 16 0).toArray 45 (0, 0))
theorem DS39.kd {n n1 n2 : Nat} {C : List Value} {i a : Int} {w w' : World} (h : DS39 n n1 n2 C i a w) (k : KD w w') : DS39 n n1 n2 C i a w' := ⟨k.2 _ _ _ _ h.1 rfl, k.2 _ _ _ _ h.2.1 rfl, k.2 _ _ _ _ h.2.2 rfl⟩
theorem putN {w w1 : World} {n N : Nat} {c : Array Value} {t : TypeId} {l : List Value} (h : w.heap[n]? = some (.cells c t (0, 0))) (hc : c.size = N) (hl : l.length = N) (hp : PutB w n 0 l w1) : w1.heap[n]? = some (.cells l.toArray t (0, 0)) := by
  have h1 := hp.block h
  rw [h1]
  have e : putL c.toList 0 l = l := by
    apply List.ext_getElem?
    intro t
    rcases Nat.lt_or_ge t N with ht | ht
    · rw [putL_get _ _ _ _ (by simp [hc, hl]), if_pos (by omega), Nat.sub_zero]
    · rw [List.getElem?_eq_none (by rw [putL_len]; simp [hc]; omega), List.getElem?_eq_none (by omega)]
  rw [e]
theorem dofin {W1 cur : World} {n n1 n2 : Nat} {zX zY : Array Value} {f f' : Nat → Int} {J : World → Prop} (k : K0 W1 cur) (g1 : W1.heap.size ≤ n1) (g2 : W1.heap.size ≤ n2)
    (cX : cur.heap[n1]? = some (.cells zX 32 (0, 0))) (hX : zX.size = 32) (cY : cur.heap[n2]? = some (.cells zY 45 (0, 0))) (hY : zY.size = 16)
    (hJ : ∀ w2, K0 W1 w2 → w2.heap[n1]? = some (.cells (arrI .u8 f 32 0).toArray 32 (0, 0)) → w2.heap[n2]? = some (.cells (arrI .u8 f' 16 0).toArray 45 (0, 0)) → J w2) :
    WrL cur n1 0 32 ∧ ∀ w1, PutB cur n1 0 (arrI .u8 f 32 0) w1 → WrL w1 n2 0 16 ∧ ∀ w2, PutB w1 n2 0 (arrI .u8 f' 16 0) w2 → KeptL [n] W1 w2 ∧ J w2 := by
  have hne : n2 ≠ n1 := fun e => by
    rw [e, cX] at cY
    have := (Obj.cells.inj (Option.some.inj cY)).2.1
    exact absurd this (by decide)
  refine ⟨WrL_block cX (by omega), fun w1 p1 => ?_⟩
  have dX := putN cX hX rfl p1
  have dY := p1.kp.blk cY (fun e => hne e)
  refine ⟨WrL_block dY (by omega), fun w2 p2 => ?_⟩
  have k1 : K0 W1 w1 := k.fresh p1.kp (fun j hj e => by have e : j = n1 := e; omega)
  have k2 : K0 W1 w2 := k1.fresh p2.kp (fun j hj e => by have e : j = n2 := e; omega)
  exact ⟨.of_k0 k2, hJ w2 k2 (p2.kp.blk dX (fun e => hne e.symm)) (putN dY hY rfl p2)⟩
theorem sbz_ok : sbz.OK := ⟨by0, fun _ _ => rfl, by0, fun _ _ => rfl, by decide, by decide, by decide, ⟨by decide, by decide⟩, ⟨by decide, by decide⟩, ⟨by decide, by decide⟩⟩
theorem xclS_ok {M : Mo} (h : M.OK) (g : ByteArray) (a : Nat → Int) (now : Int) : (xclS M g a now).OK := by
  unfold xclS
  split
  · cases hf : M.es.find? (clP g (auI a) now) with
    | none => exact sbz_ok
    | some y => exact (h.es y (List.mem_of_find?_eq_some hf)).1.s
  · exact sbz_ok
theorem xlpL_ok {M : Mo} (h : M.OK) (now : Int) : ∀ x ∈ xlpL M now, x.OK := fun x hx => by
  unfold xlpL at hx
  split at hx
  · rename_i hm
    obtain ⟨y, hy, rfl⟩ := List.mem_map.1 hx
    have o := (h.es y (List.mem_filter.1 hy).1).1.s
    exact ⟨o.id, o.idz, by0, fun _ _ => rfl, o.g, o.tx, by show (⟨#[]⟩ : ByteArray).size ≤ _; decide, o.r, ⟨by show _ ≤ (3 : Int); decide, by show (3 : Int) ≤ _; decide⟩, i64s (minB_iff.1 hm)⟩
  · cases hx
theorem xclM_no {M : Mo} {g : ByteArray} {a : Nat → Int} {now : Int} (h : xclE M g a now ≠ 0) : xclM M g a now = M ∧ xclS M g a now = sbz := by
  unfold xclM xclS
  rw [if_neg h, if_neg h]; exact ⟨rfl, rfl⟩
theorem txO_eq (t : ByteArray) : t.extract 0 (if (300 : Int) < (t.size : Int) then 300 else (t.size : Int)).toNat = txO t := by
  unfold txO
  congr 1
  split <;> omega
theorem txO_sz (t : ByteArray) : (txO t).size ≤ 300 := by unfold txO; rw [ByteArray.size_extract]; omega
theorem moL_len {i a : Int} : (moL i a).length = (a.tmod 12).toNat := by unfold moL; simp
/-- The authors that were made so far. -/
def moT (i a : Int) (j : Nat) : List (Nat → Int) := (List.range j).map fun k : Nat => auK i a (k : Int)
theorem moT_succ (i a : Int) (j : Nat) : moT i a (j + 1) = moT i a j ++ [auK i a (j : Int)] := by unfold moT; rw [List.range_succ, List.map_append]; rfl
end Go.Proofs.YtfacflbmlfbeeaaGreatDoor

/- The formulas of functions by the symbolic evaluator, and that each gives the call's contract. Written by a program (gen.py). No condition. -/
namespace Go.Proofs.YtfacflbmlfbeeaaGreatDoor
set_option maxRecDepth 100000
set_option linter.unusedVariables false

def VC_ldo (b : Nat) (m : Nat) (k : Int) (i : Int) (g : Int) (a : Int) (now : Int) (t : ByteArray) (w : World) (R : Ending -> World -> Prop) : Prop := ∀ (n : Nat) (W : World), Loc w.heap.size [Blk.mk n 66 [Value.int .u8 k, .int .u8 i, .int .u8 g, .int .u8 a, .int .i64 now, .string t] 2] w W -> ∃ (J : List Value -> World -> Prop), (∀ (W_1 : World), Loc w.heap.size [Blk.mk n 66 [Value.int .u8 k, .int .u8 i, .int .u8 g, .int .u8 a, .int .i64 now, .string t] 0] W W_1 -> ∃ (S : World -> Prop), S W_1 /\ ∃ (x : Int), (∀ (w' : World), S w' -> w'.cell? (Addr.mk n (0 + 1) none) = some (.int .u8 x)) /\ ∃ (x_1 : Int), (∀ (w' : World), S w' -> w'.cell? (Addr.mk n (0 + 2) none) = some (.int .u8 x_1)) /\ ∃ (x_2 : Int), (∀ (w' : World), S w' -> w'.cell? (Addr.mk n (0 + 3) none) = some (.int .u8 x_2)) /\ (CallsS Tryz.prog 29 #[.int .u8 x] W_1 fun (e : Ending) (w' : World) => ∃ (f : Nat -> Int), e =
 .returned (.agg (arrI .u8 f 32 0).toArray) /\ S w' /\ (CallsS Tryz.prog 30 #[.int .u8 x_1] w' fun (e : Ending) (w' : World) => ∃ (x : ByteArray), e = .returned (.string x) /\ S w' /\ (CallsS Tryz.prog 20 #[.int .u8 x_2] w' fun (e : Ending) (w' : World) => ∃ (f_1 : Nat -> Int), e = .returned (.agg (arrI .u8 f_1 16 0).toArray) /\ (∀ (n_1 : Nat) (w1 : World), NewB w' (Obj.cells #[.int .u8 0, .int .u8 0, .int .u8 0, .int .u8 0, .int .u8 0, .int .u8 0, .int .u8 0, .int .u8 0, .int .u8 0, .int .u8 0, .int .u8 0, .int .u8 0, .int .u8 0, .int .u8 0, .int .u8 0, .int .u8 0, .int .u8 0, .int .u8 0, .int .u8 0, .int .u8 0, .int .u8 0, .int .u8 0, .int .u8 0, .int .u8 0, .int .u8 0, .int .u8 0, .int .u8 0, .int .u8 0, .int .u8 0, .int .u8 0, .int .u8 0, .int .u8 0] 32) n_1 w1 -> S w1 /\ ∀ (n_2 : Nat) (w1_1 : World), NewB w1 (Obj.cells #[.int .u8 0, .int .u8 0, .int .u8 0,
 .int .u8 0, .int .u8 0, .int .u8 0, .int .u8 0, .int .u8 0, .int .u8 0, .int .u8 0, .int .u8 0, .int .u8 0, .int .u8 0, .int .u8 0, .int .u8 0, .int .u8 0] 45) n_2 w1_1 -> S w1_1 /\ WrL w1_1 n_1 0 32 /\ ∀ (w1 : World), PutB w1_1 n_1 0 (arrI .u8 f 32 0) w1 -> WrL w1 n_2 0 16 /\ ∀ (w1_2 : World), PutB w1 n_2 0 (arrI .u8 f_1 16 0) w1_2 -> KeptL [n] W_1 w1_2 /\ J [Value.string x, .pointer (some (Addr.mk n_1 0 none)), .pointer (some (Addr.mk n_2 0 none))] w1_2) /\ ∀ (n_1 : Nat) (w1 : World), NewB w' (Obj.cells #[.int .u8 0, .int .u8 0, .int .u8 0, .int .u8 0, .int .u8 0, .int .u8 0, .int .u8 0, .int .u8 0, .int .u8 0, .int .u8 0, .int .u8 0, .int .u8 0, .int .u8 0, .int .u8 0, .int .u8 0, .int .u8 0] 45) n_1 w1 -> S w1 /\ ∀ (n_2 : Nat) (w1_1 : World), NewB w1 (Obj.cells #[.int .u8 0, .int .u8 0, .int .u8 0, .int .u8 0, .int .u8 0, .int .u8 0, .int .u8 0, .int .u8 0, .int .u8 0,
 .int .u8 0, .int .u8 0, .int .u8 0, .int .u8 0, .int .u8 0, .int .u8 0, .int .u8 0, .int .u8 0, .int .u8 0, .int .u8 0, .int .u8 0, .int .u8 0, .int .u8 0, .int .u8 0, .int .u8 0, .int .u8 0, .int .u8 0, .int .u8 0, .int .u8 0, .int .u8 0, .int .u8 0, .int .u8 0, .int .u8 0] 32) n_2 w1_1 -> S w1_1 /\ WrL w1_1 n_2 0 32 /\ ∀ (w1 : World), PutB w1_1 n_2 0 (arrI .u8 f 32 0) w1 -> WrL w1 n_1 0 16 /\ ∀ (w1_2 : World), PutB w1 n_1 0 (arrI .u8 f_1 16 0) w1_2 -> KeptL [n] W_1 w1_2 /\ J [Value.string x, .pointer (some (Addr.mk n_2 0 none)), .pointer (some (Addr.mk n_1 0 none))] w1_2) /\ (∀ (n_1 : Nat) (w1 : World), NewB w' (Obj.cells #[.int .u8 0, .int .u8 0, .int .u8 0, .int .u8 0, .int .u8 0, .int .u8 0, .int .u8 0, .int .u8 0, .int .u8 0, .int .u8 0, .int .u8 0, .int .u8 0, .int .u8 0, .int .u8 0, .int .u8 0, .int .u8 0, .int .u8 0, .int .u8 0, .int .u8 0, .int .u8 0, .int .u8 0,
 .int .u8 0, .int .u8 0, .int .u8 0, .int .u8 0, .int .u8 0, .int .u8 0, .int .u8 0, .int .u8 0, .int .u8 0, .int .u8 0, .int .u8 0] 32) n_1 w1 -> S w1 /\ (CallsS Tryz.prog 20 #[.int .u8 x_2] w1 fun (e : Ending) (w' : World) => ∃ (f_1 : Nat -> Int), e = .returned (.agg (arrI .u8 f_1 16 0).toArray) /\ ∀ (n_2 : Nat) (w1 : World), NewB w' (Obj.cells #[.int .u8 0, .int .u8 0, .int .u8 0, .int .u8 0, .int .u8 0, .int .u8 0, .int .u8 0, .int .u8 0, .int .u8 0, .int .u8 0, .int .u8 0, .int .u8 0, .int .u8 0, .int .u8 0, .int .u8 0, .int .u8 0] 45) n_2 w1 -> S w1 /\ WrL w1 n_1 0 32 /\ ∀ (w1_1 : World), PutB w1 n_1 0 (arrI .u8 f 32 0) w1_1 -> WrL w1_1 n_2 0 16 /\ ∀ (w1 : World), PutB w1_1 n_2 0 (arrI .u8 f_1 16 0) w1 -> KeptL [n] W_1 w1 /\ J [Value.string x, .pointer (some (Addr.mk n_1 0 none)), .pointer (some (Addr.mk n_2 0 none))] w1) /\ ∀ (n_2 : Nat) (w1_1 : World), NewB w1 (Obj.cells
 #[.int .u8 0, .int .u8 0, .int .u8 0, .int .u8 0, .int .u8 0, .int .u8 0, .int .u8 0, .int .u8 0, .int .u8 0, .int .u8 0, .int .u8 0, .int .u8 0, .int .u8 0, .int .u8 0, .int .u8 0, .int .u8 0] 45) n_2 w1_1 -> S w1_1 /\ CallsS Tryz.prog 20 #[.int .u8 x_2] w1_1 fun (e : Ending) (w' : World) => ∃ (f_1 : Nat -> Int), e = .returned (.agg (arrI .u8 f_1 16 0).toArray) /\ WrL w' n_1 0 32 /\ ∀ (w1 : World), PutB w' n_1 0 (arrI .u8 f 32 0) w1 -> WrL w1 n_2 0 16 /\ ∀ (w1_2 : World), PutB w1 n_2 0 (arrI .u8 f_1 16 0) w1_2 -> KeptL [n] W_1 w1_2 /\ J [Value.string x, .pointer (some (Addr.mk n_1 0 none)), .pointer (some (Addr.mk n_2 0 none))] w1_2) /\ ∀ (n_1 : Nat) (w1 : World), NewB w' (Obj.cells #[.int .u8 0, .int .u8 0, .int .u8 0, .int .u8 0, .int .u8 0, .int .u8 0, .int .u8 0, .int .u8 0, .int .u8 0, .int .u8 0, .int .u8 0, .int .u8 0, .int .u8 0, .int .u8 0, .int .u8 0, .int .u8 0] 45)
 n_1 w1 -> S w1 /\ (CallsS Tryz.prog 20 #[.int .u8 x_2] w1 fun (e : Ending) (w' : World) => ∃ (f_1 : Nat -> Int), e = .returned (.agg (arrI .u8 f_1 16 0).toArray) /\ ∀ (n_2 : Nat) (w1 : World), NewB w' (Obj.cells #[.int .u8 0, .int .u8 0, .int .u8 0, .int .u8 0, .int .u8 0, .int .u8 0, .int .u8 0, .int .u8 0, .int .u8 0, .int .u8 0, .int .u8 0, .int .u8 0, .int .u8 0, .int .u8 0, .int .u8 0, .int .u8 0, .int .u8 0, .int .u8 0, .int .u8 0, .int .u8 0, .int .u8 0, .int .u8 0, .int .u8 0, .int .u8 0, .int .u8 0, .int .u8 0, .int .u8 0, .int .u8 0, .int .u8 0, .int .u8 0, .int .u8 0, .int .u8 0] 32) n_2 w1 -> S w1 /\ WrL w1 n_2 0 32 /\ ∀ (w1_1 : World), PutB w1 n_2 0 (arrI .u8 f 32 0) w1_1 -> WrL w1_1 n_1 0 16 /\ ∀ (w1 : World), PutB w1_1 n_1 0 (arrI .u8 f_1 16 0) w1 -> KeptL [n] W_1 w1 /\ J [Value.string x, .pointer (some (Addr.mk n_2 0 none)), .pointer (some (Addr.mk n_1 0 none))] w1) /\
 ∀ (n_2 : Nat) (w1_1 : World), NewB w1 (Obj.cells #[.int .u8 0, .int .u8 0, .int .u8 0, .int .u8 0, .int .u8 0, .int .u8 0, .int .u8 0, .int .u8 0, .int .u8 0, .int .u8 0, .int .u8 0, .int .u8 0, .int .u8 0, .int .u8 0, .int .u8 0, .int .u8 0, .int .u8 0, .int .u8 0, .int .u8 0, .int .u8 0, .int .u8 0, .int .u8 0, .int .u8 0, .int .u8 0, .int .u8 0, .int .u8 0, .int .u8 0, .int .u8 0, .int .u8 0, .int .u8 0, .int .u8 0, .int .u8 0] 32) n_2 w1_1 -> S w1_1 /\ CallsS Tryz.prog 20 #[.int .u8 x_2] w1_1 fun (e : Ending) (w' : World) => ∃ (f_1 : Nat -> Int), e = .returned (.agg (arrI .u8 f_1 16 0).toArray) /\ WrL w' n_2 0 32 /\ ∀ (w1 : World), PutB w' n_2 0 (arrI .u8 f 32 0) w1 -> WrL w1 n_1 0 16 /\ ∀ (w1_2 : World), PutB w1 n_1 0 (arrI .u8 f_1 16 0) w1_2 -> KeptL [n] W_1 w1_2 /\ J [Value.string x, .pointer (some (Addr.mk n_2 0 none)), .pointer (some (Addr.mk n_1 0 none))] w1_2) /\
 (∀ (n_1 : Nat) (w1 : World), NewB w' (Obj.cells #[.int .u8 0, .int .u8 0, .int .u8 0, .int .u8 0, .int .u8 0, .int .u8 0, .int .u8 0, .int .u8 0, .int .u8 0, .int .u8 0, .int .u8 0, .int .u8 0, .int .u8 0, .int .u8 0, .int .u8 0, .int .u8 0, .int .u8 0, .int .u8 0, .int .u8 0, .int .u8 0, .int .u8 0, .int .u8 0, .int .u8 0, .int .u8 0, .int .u8 0, .int .u8 0, .int .u8 0, .int .u8 0, .int .u8 0, .int .u8 0, .int .u8 0, .int .u8 0] 32) n_1 w1 -> S w1 /\ (CallsS Tryz.prog 30 #[.int .u8 x_1] w1 fun (e : Ending) (w' : World) => ∃ (x : ByteArray), e = .returned (.string x) /\ S w' /\ (CallsS Tryz.prog 20 #[.int .u8 x_2] w' fun (e : Ending) (w' : World) => ∃ (f_1 : Nat -> Int), e = .returned (.agg (arrI .u8 f_1 16 0).toArray) /\ ∀ (n_2 : Nat) (w1 : World), NewB w' (Obj.cells #[.int .u8 0, .int .u8 0, .int .u8 0, .int .u8 0, .int .u8 0, .int .u8 0, .int .u8 0, .int .u8 0, .int .u8 0,
 .int .u8 0, .int .u8 0, .int .u8 0, .int .u8 0, .int .u8 0, .int .u8 0, .int .u8 0] 45) n_2 w1 -> S w1 /\ WrL w1 n_1 0 32 /\ ∀ (w1_1 : World), PutB w1 n_1 0 (arrI .u8 f 32 0) w1_1 -> WrL w1_1 n_2 0 16 /\ ∀ (w1 : World), PutB w1_1 n_2 0 (arrI .u8 f_1 16 0) w1 -> KeptL [n] W_1 w1 /\ J [Value.string x, .pointer (some (Addr.mk n_1 0 none)), .pointer (some (Addr.mk n_2 0 none))] w1) /\ ∀ (n_2 : Nat) (w1 : World), NewB w' (Obj.cells #[.int .u8 0, .int .u8 0, .int .u8 0, .int .u8 0, .int .u8 0, .int .u8 0, .int .u8 0, .int .u8 0, .int .u8 0, .int .u8 0, .int .u8 0, .int .u8 0, .int .u8 0, .int .u8 0, .int .u8 0, .int .u8 0] 45) n_2 w1 -> S w1 /\ CallsS Tryz.prog 20 #[.int .u8 x_2] w1 fun (e : Ending) (w' : World) => ∃ (f_1 : Nat -> Int), e = .returned (.agg (arrI .u8 f_1 16 0).toArray) /\ WrL w' n_1 0 32 /\ ∀ (w1 : World), PutB w' n_1 0 (arrI .u8 f 32 0) w1 -> WrL w1 n_2 0 16 /\
 ∀ (w1_1 : World), PutB w1 n_2 0 (arrI .u8 f_1 16 0) w1_1 -> KeptL [n] W_1 w1_1 /\ J [Value.string x, .pointer (some (Addr.mk n_1 0 none)), .pointer (some (Addr.mk n_2 0 none))] w1_1) /\ ∀ (n_2 : Nat) (w1_1 : World), NewB w1 (Obj.cells #[.int .u8 0, .int .u8 0, .int .u8 0, .int .u8 0, .int .u8 0, .int .u8 0, .int .u8 0, .int .u8 0, .int .u8 0, .int .u8 0, .int .u8 0, .int .u8 0, .int .u8 0, .int .u8 0, .int .u8 0, .int .u8 0] 45) n_2 w1_1 -> S w1_1 /\ CallsS Tryz.prog 30 #[.int .u8 x_1] w1_1 fun (e : Ending) (w' : World) => ∃ (x : ByteArray), e = .returned (.string x) /\ S w' /\ CallsS Tryz.prog 20 #[.int .u8 x_2] w' fun (e : Ending) (w' : World) => ∃ (f_1 : Nat -> Int), e = .returned (.agg (arrI .u8 f_1 16 0).toArray) /\ WrL w' n_1 0 32 /\ ∀ (w1 : World), PutB w' n_1 0 (arrI .u8 f 32 0) w1 -> WrL w1 n_2 0 16 /\ ∀ (w1_2 : World), PutB w1 n_2 0 (arrI .u8 f_1 16 0) w1_2 ->
 KeptL [n] W_1 w1_2 /\ J [Value.string x, .pointer (some (Addr.mk n_1 0 none)), .pointer (some (Addr.mk n_2 0 none))] w1_2) /\ ∀ (n_1 : Nat) (w1 : World), NewB w' (Obj.cells #[.int .u8 0, .int .u8 0, .int .u8 0, .int .u8 0, .int .u8 0, .int .u8 0, .int .u8 0, .int .u8 0, .int .u8 0, .int .u8 0, .int .u8 0, .int .u8 0, .int .u8 0, .int .u8 0, .int .u8 0, .int .u8 0] 45) n_1 w1 -> S w1 /\ (CallsS Tryz.prog 30 #[.int .u8 x_1] w1 fun (e : Ending) (w' : World) => ∃ (x : ByteArray), e = .returned (.string x) /\ S w' /\ (CallsS Tryz.prog 20 #[.int .u8 x_2] w' fun (e : Ending) (w' : World) => ∃ (f_1 : Nat -> Int), e = .returned (.agg (arrI .u8 f_1 16 0).toArray) /\ ∀ (n_2 : Nat) (w1 : World), NewB w' (Obj.cells #[.int .u8 0, .int .u8 0, .int .u8 0, .int .u8 0, .int .u8 0, .int .u8 0, .int .u8 0, .int .u8 0, .int .u8 0, .int .u8 0, .int .u8 0, .int .u8 0, .int .u8 0, .int .u8 0, .int .u8 0,
 .int .u8 0, .int .u8 0, .int .u8 0, .int .u8 0, .int .u8 0, .int .u8 0, .int .u8 0, .int .u8 0, .int .u8 0, .int .u8 0, .int .u8 0, .int .u8 0, .int .u8 0, .int .u8 0, .int .u8 0, .int .u8 0, .int .u8 0] 32) n_2 w1 -> S w1 /\ WrL w1 n_2 0 32 /\ ∀ (w1_1 : World), PutB w1 n_2 0 (arrI .u8 f 32 0) w1_1 -> WrL w1_1 n_1 0 16 /\ ∀ (w1 : World), PutB w1_1 n_1 0 (arrI .u8 f_1 16 0) w1 -> KeptL [n] W_1 w1 /\ J [Value.string x, .pointer (some (Addr.mk n_2 0 none)), .pointer (some (Addr.mk n_1 0 none))] w1) /\ ∀ (n_2 : Nat) (w1 : World), NewB w' (Obj.cells #[.int .u8 0, .int .u8 0, .int .u8 0, .int .u8 0, .int .u8 0, .int .u8 0, .int .u8 0, .int .u8 0, .int .u8 0, .int .u8 0, .int .u8 0, .int .u8 0, .int .u8 0, .int .u8 0, .int .u8 0, .int .u8 0, .int .u8 0, .int .u8 0, .int .u8 0, .int .u8 0, .int .u8 0, .int .u8 0, .int .u8 0, .int .u8 0, .int .u8 0, .int .u8 0, .int .u8 0,
 .int .u8 0, .int .u8 0, .int .u8 0, .int .u8 0, .int .u8 0] 32) n_2 w1 -> S w1 /\ CallsS Tryz.prog 20 #[.int .u8 x_2] w1 fun (e : Ending) (w' : World) => ∃ (f_1 : Nat -> Int), e = .returned (.agg (arrI .u8 f_1 16 0).toArray) /\ WrL w' n_2 0 32 /\ ∀ (w1 : World), PutB w' n_2 0 (arrI .u8 f 32 0) w1 -> WrL w1 n_1 0 16 /\ ∀ (w1_1 : World), PutB w1 n_1 0 (arrI .u8 f_1 16 0) w1_1 -> KeptL [n] W_1 w1_1 /\ J [Value.string x, .pointer (some (Addr.mk n_2 0 none)), .pointer (some (Addr.mk n_1 0 none))] w1_1) /\ ∀ (n_2 : Nat) (w1_1 : World), NewB w1 (Obj.cells #[.int .u8 0, .int .u8 0, .int .u8 0, .int .u8 0, .int .u8 0, .int .u8 0, .int .u8 0, .int .u8 0, .int .u8 0, .int .u8 0, .int .u8 0, .int .u8 0, .int .u8 0, .int .u8 0, .int .u8 0, .int .u8 0, .int .u8 0, .int .u8 0, .int .u8 0, .int .u8 0, .int .u8 0, .int .u8 0, .int .u8 0, .int .u8 0, .int .u8 0, .int .u8 0, .int .u8 0,
 .int .u8 0, .int .u8 0, .int .u8 0, .int .u8 0, .int .u8 0] 32) n_2 w1_1 -> S w1_1 /\ CallsS Tryz.prog 30 #[.int .u8 x_1] w1_1 fun (e : Ending) (w' : World) => ∃ (x : ByteArray), e = .returned (.string x) /\ S w' /\ CallsS Tryz.prog 20 #[.int .u8 x_2] w' fun (e : Ending) (w' : World) => ∃ (f_1 : Nat -> Int), e = .returned (.agg (arrI .u8 f_1 16 0).toArray) /\ WrL w' n_2 0 32 /\ ∀ (w1 : World), PutB w' n_2 0 (arrI .u8 f 32 0) w1 -> WrL w1 n_1 0 16 /\ ∀ (w1_2 : World), PutB w1 n_1 0 (arrI .u8 f_1 16 0) w1_2 -> KeptL [n] W_1 w1_2 /\ J [Value.string x, .pointer (some (Addr.mk n_2 0 none)), .pointer (some (Addr.mk n_1 0 none))] w1_2) /\ (∀ (n_1 : Nat) (w1 : World), NewB W_1 (Obj.cells #[.int .u8 0, .int .u8 0, .int .u8 0, .int .u8 0, .int .u8 0, .int .u8 0, .int .u8 0, .int .u8 0, .int .u8 0, .int .u8 0, .int .u8 0, .int .u8 0, .int .u8 0, .int .u8 0, .int .u8 0, .int .u8 0,
 .int .u8 0, .int .u8 0, .int .u8 0, .int .u8 0, .int .u8 0, .int .u8 0, .int .u8 0, .int .u8 0, .int .u8 0, .int .u8 0, .int .u8 0, .int .u8 0, .int .u8 0, .int .u8 0, .int .u8 0, .int .u8 0] 32) n_1 w1 -> S w1 /\ (CallsS Tryz.prog 29 #[.int .u8 x] w1 fun (e : Ending) (w' : World) => ∃ (f : Nat -> Int), e = .returned (.agg (arrI .u8 f 32 0).toArray) /\ S w' /\ (CallsS Tryz.prog 30 #[.int .u8 x_1] w' fun (e : Ending) (w' : World) => ∃ (x : ByteArray), e = .returned (.string x) /\ S w' /\ (CallsS Tryz.prog 20 #[.int .u8 x_2] w' fun (e : Ending) (w' : World) => ∃ (f_1 : Nat -> Int), e = .returned (.agg (arrI .u8 f_1 16 0).toArray) /\ ∀ (n_2 : Nat) (w1 : World), NewB w' (Obj.cells #[.int .u8 0, .int .u8 0, .int .u8 0, .int .u8 0, .int .u8 0, .int .u8 0, .int .u8 0, .int .u8 0, .int .u8 0, .int .u8 0, .int .u8 0, .int .u8 0, .int .u8 0, .int .u8 0, .int .u8 0, .int .u8 0] 45) n_2 w1 ->
 S w1 /\ WrL w1 n_1 0 32 /\ ∀ (w1_1 : World), PutB w1 n_1 0 (arrI .u8 f 32 0) w1_1 -> WrL w1_1 n_2 0 16 /\ ∀ (w1 : World), PutB w1_1 n_2 0 (arrI .u8 f_1 16 0) w1 -> KeptL [n] W_1 w1 /\ J [Value.string x, .pointer (some (Addr.mk n_1 0 none)), .pointer (some (Addr.mk n_2 0 none))] w1) /\ ∀ (n_2 : Nat) (w1 : World), NewB w' (Obj.cells #[.int .u8 0, .int .u8 0, .int .u8 0, .int .u8 0, .int .u8 0, .int .u8 0, .int .u8 0, .int .u8 0, .int .u8 0, .int .u8 0, .int .u8 0, .int .u8 0, .int .u8 0, .int .u8 0, .int .u8 0, .int .u8 0] 45) n_2 w1 -> S w1 /\ CallsS Tryz.prog 20 #[.int .u8 x_2] w1 fun (e : Ending) (w' : World) => ∃ (f_1 : Nat -> Int), e = .returned (.agg (arrI .u8 f_1 16 0).toArray) /\ WrL w' n_1 0 32 /\ ∀ (w1 : World), PutB w' n_1 0 (arrI .u8 f 32 0) w1 -> WrL w1 n_2 0 16 /\ ∀ (w1_1 : World), PutB w1 n_2 0 (arrI .u8 f_1 16 0) w1_1 -> KeptL [n] W_1 w1_1 /\ J
 [Value.string x, .pointer (some (Addr.mk n_1 0 none)), .pointer (some (Addr.mk n_2 0 none))] w1_1) /\ ∀ (n_2 : Nat) (w1 : World), NewB w' (Obj.cells #[.int .u8 0, .int .u8 0, .int .u8 0, .int .u8 0, .int .u8 0, .int .u8 0, .int .u8 0, .int .u8 0, .int .u8 0, .int .u8 0, .int .u8 0, .int .u8 0, .int .u8 0, .int .u8 0, .int .u8 0, .int .u8 0] 45) n_2 w1 -> S w1 /\ CallsS Tryz.prog 30 #[.int .u8 x_1] w1 fun (e : Ending) (w' : World) => ∃ (x : ByteArray), e = .returned (.string x) /\ S w' /\ CallsS Tryz.prog 20 #[.int .u8 x_2] w' fun (e : Ending) (w' : World) => ∃ (f_1 : Nat -> Int), e = .returned (.agg (arrI .u8 f_1 16 0).toArray) /\ WrL w' n_1 0 32 /\ ∀ (w1 : World), PutB w' n_1 0 (arrI .u8 f 32 0) w1 -> WrL w1 n_2 0 16 /\ ∀ (w1_1 : World), PutB w1 n_2 0 (arrI .u8 f_1 16 0) w1_1 -> KeptL [n] W_1 w1_1 /\ J [Value.string x, .pointer (some (Addr.mk n_1 0 none)),
 .pointer (some (Addr.mk n_2 0 none))] w1_1) /\ ∀ (n_2 : Nat) (w1_1 : World), NewB w1 (Obj.cells #[.int .u8 0, .int .u8 0, .int .u8 0, .int .u8 0, .int .u8 0, .int .u8 0, .int .u8 0, .int .u8 0, .int .u8 0, .int .u8 0, .int .u8 0, .int .u8 0, .int .u8 0, .int .u8 0, .int .u8 0, .int .u8 0] 45) n_2 w1_1 -> S w1_1 /\ CallsS Tryz.prog 29 #[.int .u8 x] w1_1 fun (e : Ending) (w' : World) => ∃ (f : Nat -> Int), e = .returned (.agg (arrI .u8 f 32 0).toArray) /\ S w' /\ CallsS Tryz.prog 30 #[.int .u8 x_1] w' fun (e : Ending) (w' : World) => ∃ (x : ByteArray), e = .returned (.string x) /\ S w' /\ CallsS Tryz.prog 20 #[.int .u8 x_2] w' fun (e : Ending) (w' : World) => ∃ (f_1 : Nat -> Int), e = .returned (.agg (arrI .u8 f_1 16 0).toArray) /\ WrL w' n_1 0 32 /\ ∀ (w1 : World), PutB w' n_1 0 (arrI .u8 f 32 0) w1 -> WrL w1 n_2 0 16 /\ ∀ (w1_2 : World), PutB w1 n_2 0 (arrI .u8 f_1 16 0) w1_2 ->
 KeptL [n] W_1 w1_2 /\ J [Value.string x, .pointer (some (Addr.mk n_1 0 none)), .pointer (some (Addr.mk n_2 0 none))] w1_2) /\ ∀ (n_1 : Nat) (w1 : World), NewB W_1 (Obj.cells #[.int .u8 0, .int .u8 0, .int .u8 0, .int .u8 0, .int .u8 0, .int .u8 0, .int .u8 0, .int .u8 0, .int .u8 0, .int .u8 0, .int .u8 0, .int .u8 0, .int .u8 0, .int .u8 0, .int .u8 0, .int .u8 0] 45) n_1 w1 -> S w1 /\ (CallsS Tryz.prog 29 #[.int .u8 x] w1 fun (e : Ending) (w' : World) => ∃ (f : Nat -> Int), e = .returned (.agg (arrI .u8 f 32 0).toArray) /\ S w' /\ (CallsS Tryz.prog 30 #[.int .u8 x_1] w' fun (e : Ending) (w' : World) => ∃ (x : ByteArray), e = .returned (.string x) /\ S w' /\ (CallsS Tryz.prog 20 #[.int .u8 x_2] w' fun (e : Ending) (w' : World) => ∃ (f_1 : Nat -> Int), e = .returned (.agg (arrI .u8 f_1 16 0).toArray) /\ ∀ (n_2 : Nat) (w1 : World), NewB w' (Obj.cells
 #[.int .u8 0, .int .u8 0, .int .u8 0, .int .u8 0, .int .u8 0, .int .u8 0, .int .u8 0, .int .u8 0, .int .u8 0, .int .u8 0, .int .u8 0, .int .u8 0, .int .u8 0, .int .u8 0, .int .u8 0, .int .u8 0, .int .u8 0, .int .u8 0, .int .u8 0, .int .u8 0, .int .u8 0, .int .u8 0, .int .u8 0, .int .u8 0, .int .u8 0, .int .u8 0, .int .u8 0, .int .u8 0, .int .u8 0, .int .u8 0, .int .u8 0, .int .u8 0] 32) n_2 w1 -> S w1 /\ WrL w1 n_2 0 32 /\ ∀ (w1_1 : World), PutB w1 n_2 0 (arrI .u8 f 32 0) w1_1 -> WrL w1_1 n_1 0 16 /\ ∀ (w1 : World), PutB w1_1 n_1 0 (arrI .u8 f_1 16 0) w1 -> KeptL [n] W_1 w1 /\ J [Value.string x, .pointer (some (Addr.mk n_2 0 none)), .pointer (some (Addr.mk n_1 0 none))] w1) /\ ∀ (n_2 : Nat) (w1 : World), NewB w' (Obj.cells #[.int .u8 0, .int .u8 0, .int .u8 0, .int .u8 0, .int .u8 0, .int .u8 0, .int .u8 0, .int .u8 0, .int .u8 0, .int .u8 0, .int .u8 0, .int .u8 0,
 .int .u8 0, .int .u8 0, .int .u8 0, .int .u8 0, .int .u8 0, .int .u8 0, .int .u8 0, .int .u8 0, .int .u8 0, .int .u8 0, .int .u8 0, .int .u8 0, .int .u8 0, .int .u8 0, .int .u8 0, .int .u8 0, .int .u8 0, .int .u8 0, .int .u8 0, .int .u8 0] 32) n_2 w1 -> S w1 /\ CallsS Tryz.prog 20 #[.int .u8 x_2] w1 fun (e : Ending) (w' : World) => ∃ (f_1 : Nat -> Int), e = .returned (.agg (arrI .u8 f_1 16 0).toArray) /\ WrL w' n_2 0 32 /\ ∀ (w1 : World), PutB w' n_2 0 (arrI .u8 f 32 0) w1 -> WrL w1 n_1 0 16 /\ ∀ (w1_1 : World), PutB w1 n_1 0 (arrI .u8 f_1 16 0) w1_1 -> KeptL [n] W_1 w1_1 /\ J [Value.string x, .pointer (some (Addr.mk n_2 0 none)), .pointer (some (Addr.mk n_1 0 none))] w1_1) /\ ∀ (n_2 : Nat) (w1 : World), NewB w' (Obj.cells #[.int .u8 0, .int .u8 0, .int .u8 0, .int .u8 0, .int .u8 0, .int .u8 0, .int .u8 0, .int .u8 0, .int .u8 0, .int .u8 0, .int .u8 0, .int .u8 0,
 .int .u8 0, .int .u8 0, .int .u8 0, .int .u8 0, .int .u8 0, .int .u8 0, .int .u8 0, .int .u8 0, .int .u8 0, .int .u8 0, .int .u8 0, .int .u8 0, .int .u8 0, .int .u8 0, .int .u8 0, .int .u8 0, .int .u8 0, .int .u8 0, .int .u8 0, .int .u8 0] 32) n_2 w1 -> S w1 /\ CallsS Tryz.prog 30 #[.int .u8 x_1] w1 fun (e : Ending) (w' : World) => ∃ (x : ByteArray), e = .returned (.string x) /\ S w' /\ CallsS Tryz.prog 20 #[.int .u8 x_2] w' fun (e : Ending) (w' : World) => ∃ (f_1 : Nat -> Int), e = .returned (.agg (arrI .u8 f_1 16 0).toArray) /\ WrL w' n_2 0 32 /\ ∀ (w1 : World), PutB w' n_2 0 (arrI .u8 f 32 0) w1 -> WrL w1 n_1 0 16 /\ ∀ (w1_1 : World), PutB w1 n_1 0 (arrI .u8 f_1 16 0) w1_1 -> KeptL [n] W_1 w1_1 /\ J [Value.string x, .pointer (some (Addr.mk n_2 0 none)), .pointer (some (Addr.mk n_1 0 none))] w1_1) /\ ∀ (n_2 : Nat) (w1_1 : World), NewB w1 (Obj.cells
 #[.int .u8 0, .int .u8 0, .int .u8 0, .int .u8 0, .int .u8 0, .int .u8 0, .int .u8 0, .int .u8 0, .int .u8 0, .int .u8 0, .int .u8 0, .int .u8 0, .int .u8 0, .int .u8 0, .int .u8 0, .int .u8 0, .int .u8 0, .int .u8 0, .int .u8 0, .int .u8 0, .int .u8 0, .int .u8 0, .int .u8 0, .int .u8 0, .int .u8 0, .int .u8 0, .int .u8 0, .int .u8 0, .int .u8 0, .int .u8 0, .int .u8 0, .int .u8 0] 32) n_2 w1_1 -> S w1_1 /\ CallsS Tryz.prog 29 #[.int .u8 x] w1_1 fun (e : Ending) (w' : World) => ∃ (f : Nat -> Int), e = .returned (.agg (arrI .u8 f 32 0).toArray) /\ S w' /\ CallsS Tryz.prog 30 #[.int .u8 x_1] w' fun (e : Ending) (w' : World) => ∃ (x : ByteArray), e = .returned (.string x) /\ S w' /\ CallsS Tryz.prog 20 #[.int .u8 x_2] w' fun (e : Ending) (w' : World) => ∃ (f_1 : Nat -> Int), e = .returned (.agg (arrI .u8 f_1 16 0).toArray) /\ WrL w' n_2 0 32 /\ ∀ (w1 : World), PutB w' n_2 0
 (arrI .u8 f 32 0) w1 -> WrL w1 n_1 0 16 /\ ∀ (w1_2 : World), PutB w1 n_1 0 (arrI .u8 f_1 16 0) w1_2 -> KeptL [n] W_1 w1_2 /\ J [Value.string x, .pointer (some (Addr.mk n_2 0 none)), .pointer (some (Addr.mk n_1 0 none))] w1_2) /\ ∀ (x : ByteArray) (x_1 x_2 : Option Addr) (w' : World), J [Value.string x, .pointer x_1, .pointer x_2] w' -> Loc w.heap.size [Blk.mk n 66 [Value.int .u8 k, .int .u8 i, .int .u8 g, .int .u8 a, .int .i64 now, .string t] 0] w' w' -> ((0 <= if 300 < (↑t.size : Int) then 300 else (↑t.size : Int)) /\ (if 300 < (↑t.size : Int) then 300 else (↑t.size : Int)) <= (↑t.size : Int)) /\ bsp (k.tmod 8 == 0) (∀ (W : World), Loc w.heap.size [Blk.mk n 66 [Value.int .u8 k, .int .u8 i, .int .u8 g, .int .u8 a, .int .i64 now, .string t] 0] w' W -> ∃ (S : World -> Prop), S W /\ nn true x_1 fun (b_1 o : Nat) => ∃ (f : Nat -> Int), (∀ (w' : World), S w' -> AtL w' b_1 o
 (arrI .u8 f 32 0)) /\ ∃ (x_3 : Int), (∀ (w' : World), S w' -> w'.cell? (Addr.mk n (0 + 4) none) = some (.int .i64 x_3)) /\ nn true x_1 fun (b_2 o : Nat) => ∃ (f_1 : Nat -> Int), (∀ (w' : World), S w' -> AtL w' b_2 o (arrI .u8 f_1 32 0)) /\ ∃ (x_4 : Int), (∀ (w' : World), S w' -> w'.cell? (Addr.mk n (0 + 4) none) = some (.int .i64 x_4)) /\ CallsS Tryz.prog 18 #[.pointer (some (Addr.mk b 0 none)), .agg (arrI .u8 f 32 0).toArray, .string x, .string (t.extract 0 (if 300 < (↑t.size : Int) then 300 else (↑t.size : Int)).toNat), .int .i64 x_3] W fun (e : Ending) (w' : World) => ∃ (x_5 : Int), e = .returned (.int .i64 x_5) /\ S w' /\ CallsS Tryz.prog 26 #[.pointer (some (Addr.mk m 0 none)), .agg (arrI .u8 f_1 32 0).toArray, .string x, .string (t.extract 0 (if 300 < (↑t.size : Int) then 300 else (↑t.size : Int)).toNat), .int .i64 x_4] w' fun (e : Ending) (w' : World) => ∃ (x : Int),
 e = .returned (.int .i64 x) /\ KeptL [n] W w' /\ R (.returned (.bool (x_5 == x))) w') (bsp (k.tmod 8 == 1) (∃ (J : List Value -> World -> Prop), (nn true x_2 fun (b_1 o : Nat) => ∃ (f : Nat -> Int), AtL w' b_1 o (arrI .u8 f 16 0) /\ CallsS Tryz.prog 39 #[.pointer (some (Addr.mk b 0 none)), .string x, .agg (arrI .u8 f 16 0).toArray, .int .i64 now] w' fun (e : Ending) (w'_1 : World) => ∃ (f : Nat -> Int) (x : ByteArray), ∃ (x_3 : ByteArray) (x_4 : Int), ∃ (x_5 : Int) (f_1 : Nat -> Int), ∃ (x_6 : Int) (x_7 : ByteArray) (x_8 : Int), e = .returned (.tuple #[.agg (arrI .u8 f 32 0 ++ ([Value.string x, .string x_3, .int .i64 x_4, .int .i64 x_5] ++ arrI .u8 f_1 16 0 ++ [Value.int .i64 x_6, .string x_7])).toArray, .int .i64 x_8]) /\ KeptL [n] w' w'_1 /\ ∀ (n_1 : Nat) (W : World), Loc w.heap.size [Blk.mk n 66 [Value.int .u8 k, .int .u8 i, .int .u8 g,
 .int .u8 a, .int .i64 now, .string t] 0, Blk.mk n_1 48 (arrI .u8 f 32 0 ++ ([Value.string x, .string x_3, .int .i64 x_4, .int .i64 x_5] ++ arrI .u8 f_1 16 0 ++ [Value.int .i64 x_6, .string x_7])) (wrM 2)] w'_1 W -> J [Value.int .i64 x_8, .pointer (some (Addr.mk n_1 0 none))] W) /\ ∀ (x_3 : Int) (x_4 : Option Addr) (w' : World), J [Value.int .i64 x_3, .pointer x_4] w' -> Loc w.heap.size [Blk.mk n 66 [Value.int .u8 k, .int .u8 i, .int .u8 g, .int .u8 a, .int .i64 now, .string t] 0] w' w' -> ∃ (J : List Value -> World -> Prop), (nn true x_2 fun (b o : Nat) => ∃ (f : Nat -> Int), AtL w' b o (arrI .u8 f 16 0) /\ CallsS Tryz.prog 62 #[.pointer (some (Addr.mk m 0 none)), .string x, .agg (arrI .u8 f 16 0).toArray, .int .i64 now] w' fun (e : Ending) (w'_1 : World) => ∃ (f : Nat -> Int) (x : ByteArray), ∃ (x_5 : ByteArray) (x_6 : Int), ∃ (x_7 : Int) (f_1 : Nat -> Int) (x_8 : Int),
 ∃ (x_9 : ByteArray) (x_10 : Int), e = .returned (.tuple #[.agg (arrI .u8 f 32 0 ++ ([Value.string x, .string x_5, .int .i64 x_6, .int .i64 x_7] ++ arrI .u8 f_1 16 0 ++ [Value.int .i64 x_8, .string x_9])).toArray, .int .i64 x_10]) /\ KeptL [n] w' w'_1 /\ ∀ (n_1 : Nat) (W : World), Loc w.heap.size [Blk.mk n 66 [Value.int .u8 k, .int .u8 i, .int .u8 g, .int .u8 a, .int .i64 now, .string t] 0, Blk.mk n_1 48 (arrI .u8 f 32 0 ++ ([Value.string x, .string x_5, .int .i64 x_6, .int .i64 x_7] ++ arrI .u8 f_1 16 0 ++ [Value.int .i64 x_8, .string x_9])) (wrM 2)] w'_1 W -> J [Value.int .i64 x_10, .pointer (some (Addr.mk n_1 0 none))] W) /\ ∀ (x : Int) (x_5 : Option Addr) (w' : World), J [Value.int .i64 x, .pointer x_5] w' -> Loc w.heap.size [Blk.mk n 66 [Value.int .u8 k, .int .u8 i, .int .u8 g, .int .u8 a, .int .i64 now, .string t] 0] w' w' -> nn true x_4 fun (b o : Nat) => ∃ (f : Nat -> Int),
 ∃ (x_6 : ByteArray) (x_7 : ByteArray), ∃ (x_8 : Int) (x_9 : Int), ∃ (f_1 : Nat -> Int) (x_10 : Int) (x_11 : ByteArray), AtL w' b o (arrI .u8 f 32 0 ++ ([Value.string x_6, .string x_7, .int .i64 x_8, .int .i64 x_9] ++ arrI .u8 f_1 16 0 ++ [Value.int .i64 x_10, .string x_11])) /\ nn true x_5 fun (b o : Nat) => ∃ (f_2 : Nat -> Int) (x_12 : ByteArray), ∃ (x_13 : ByteArray) (x_14 : Int), ∃ (x_15 : Int) (f_3 : Nat -> Int), ∃ (x_16 : Int) (x_17 : ByteArray), AtL w' b o (arrI .u8 f_2 32 0 ++ ([Value.string x_12, .string x_13, .int .i64 x_14, .int .i64 x_15] ++ arrI .u8 f_3 16 0 ++ [Value.int .i64 x_16, .string x_17])) /\ ∃ (r : Bool), EqP Tryz.prog 48 (.agg (arrI .u8 f 32 0 ++ ([Value.string x_6, .string x_7, .int .i64 x_8, .int .i64 x_9] ++ arrI .u8 f_1 16 0 ++ [Value.int .i64 x_10, .string x_11])).toArray) (.agg
 (arrI .u8 f_2 32 0 ++ ([Value.string x_12, .string x_13, .int .i64 x_14, .int .i64 x_15] ++ arrI .u8 f_3 16 0 ++ [Value.int .i64 x_16, .string x_17])).toArray) r /\ R (.returned (.bool (r && x_3 == x))) w') (bsp (k.tmod 8 == 2) (∀ (W : World), Loc w.heap.size [Blk.mk n 66 [Value.int .u8 k, .int .u8 i, .int .u8 g, .int .u8 a, .int .i64 now, .string t] 0] w' W -> ∃ (S : World -> Prop), S W /\ nn true x_1 fun (b_1 o : Nat) => ∃ (f : Nat -> Int), (∀ (w' : World), S w' -> AtL w' b_1 o (arrI .u8 f 32 0)) /\ nn true x_2 fun (b_2 o : Nat) => ∃ (f_1 : Nat -> Int), (∀ (w' : World), S w' -> AtL w' b_2 o (arrI .u8 f_1 16 0)) /\ ∃ (x_3 : Int), (∀ (w' : World), S w' -> w'.cell? (Addr.mk n (0 + 4) none) = some (.int .i64 x_3)) /\ nn true x_1 fun (b_3 o : Nat) => ∃ (f_2 : Nat -> Int), (∀ (w' : World), S w' -> AtL w' b_3 o (arrI .u8 f_2 32 0)) /\ nn true x_2 fun (b_4 o : Nat) => ∃ (f_3 : Nat -> Int),
 (∀ (w' : World), S w' -> AtL w' b_4 o (arrI .u8 f_3 16 0)) /\ ∃ (x_4 : Int), (∀ (w' : World), S w' -> w'.cell? (Addr.mk n (0 + 4) none) = some (.int .i64 x_4)) /\ CallsS Tryz.prog 43 #[.pointer (some (Addr.mk b 0 none)), .agg (arrI .u8 f 32 0).toArray, .string x, .agg (arrI .u8 f_1 16 0).toArray, .int .i64 x_3] W fun (e : Ending) (w' : World) => ∃ (x_5 : Int), e = .returned (.int .i64 x_5) /\ S w' /\ CallsS Tryz.prog 63 #[.pointer (some (Addr.mk m 0 none)), .agg (arrI .u8 f_2 32 0).toArray, .string x, .agg (arrI .u8 f_3 16 0).toArray, .int .i64 x_4] w' fun (e : Ending) (w' : World) => ∃ (x : Int), e = .returned (.int .i64 x) /\ KeptL [n] W w' /\ R (.returned (.bool (x_5 == x))) w') (bsp (k.tmod 8 == 3) (∃ (J : List Value -> World -> Prop), (nn true x_1 fun (b_1 o : Nat) => ∃ (f : Nat -> Int), AtL w' b_1 o (arrI .u8 f 32 0) /\ nn true x_2 fun (b_2 o : Nat) => ∃ (f_1 : Nat -> Int),
 AtL w' b_2 o (arrI .u8 f_1 16 0) /\ CallsS Tryz.prog 19 #[.pointer (some (Addr.mk b 0 none)), .agg (arrI .u8 f 32 0).toArray, .string x, .agg (arrI .u8 f_1 16 0).toArray, .int .i64 now] w' fun (e : Ending) (w'_1 : World) => ∃ (x : Int) (f : Nat -> Int), ∃ (x_3 : ByteArray) (x_4 : Int), ∃ (x_5 : Bool) (p : Option Addr), ∃ (n_1 : Nat) (c : Nat), ∃ (x_6 : ByteArray) (x_7 : Int), ∃ (x_8 : Int) (f_2 : Nat -> Int) (x_9 : Int), e = .returned (.tuple #[.agg ([Value.int .i64 x] ++ arrI .u8 f 32 0 ++ ([Value.string x_3, .int .i64 x_4, .bool x_5, .slice p n_1 c, .string x_6, .int .i64 x_7, .int .i64 x_8] ++ arrI .u8 f_2 16 0)).toArray, .int .i64 x_9]) /\ KeptL [n] w' w'_1 /\ ∀ (n_2 : Nat) (W : World), Loc w.heap.size [Blk.mk n 66 [Value.int .u8 k, .int .u8 i, .int .u8 g, .int .u8 a, .int .i64 now, .string t] 0, Blk.mk n_2 42
 ([Value.int .i64 x] ++ arrI .u8 f 32 0 ++ ([Value.string x_3, .int .i64 x_4, .bool x_5, .slice p n_1 c, .string x_6, .int .i64 x_7, .int .i64 x_8] ++ arrI .u8 f_2 16 0)) (wrM 2)] w'_1 W -> J [Value.int .i64 x_9, .pointer (some (Addr.mk n_2 0 none))] W) /\ ∀ (x_3 : Int) (x_4 : Option Addr) (w' : World), J [Value.int .i64 x_3, .pointer x_4] w' -> Loc w.heap.size [Blk.mk n 66 [Value.int .u8 k, .int .u8 i, .int .u8 g, .int .u8 a, .int .i64 now, .string t] 0] w' w' -> ∃ (J : List Value -> World -> Prop), (nn true x_1 fun (b o : Nat) => ∃ (f : Nat -> Int), AtL w' b o (arrI .u8 f 32 0) /\ nn true x_2 fun (b o : Nat) => ∃ (f_1 : Nat -> Int), AtL w' b o (arrI .u8 f_1 16 0) /\ CallsS Tryz.prog 27 #[.pointer (some (Addr.mk m 0 none)), .agg (arrI .u8 f 32 0).toArray, .string x, .agg (arrI .u8 f_1 16 0).toArray, .int .i64 1, .string (ByteArray.mk #[]), .int .i64 now]
 w' fun (e : Ending) (w'_1 : World) => ∃ (x : Int), e = .returned (.int .i64 x) /\ KeptL [n] w' w'_1 /\ J [Value.int .i64 x] w'_1) /\ ∀ (x_5 : Int) (w' : World), J [Value.int .i64 x_5] w' -> Loc w.heap.size [Blk.mk n 66 [Value.int .u8 k, .int .u8 i, .int .u8 g, .int .u8 a, .int .i64 now, .string t] 0] w' w' -> ∀ (W : World), Loc w.heap.size [Blk.mk n 66 [Value.int .u8 k, .int .u8 i, .int .u8 g, .int .u8 a, .int .i64 now, .string t] 0] w' W -> ∃ (S : World -> Prop), S W /\ nn (x_3 == x_5) x_4 fun (b o : Nat) => ∃ (x_6 : Int) (f : Nat -> Int), ∃ (x_7 : ByteArray) (x_8 : Int), ∃ (x_9 : Bool) (p : Option Addr), ∃ (n_1 : Nat) (c : Nat), ∃ (x_10 : ByteArray) (x_11 : Int), ∃ (x_12 : Int) (f_1 : Nat -> Int), gimp (x_3 == x_5) (∀ (w' : World), S w' -> AtL w' b o ([Value.int .i64 x_6] ++ arrI .u8 f 32 0 ++ ([Value.string x_7, .int .i64 x_8,
 .bool x_9, .slice p n_1 c, .string x_10, .int .i64 x_11, .int .i64 x_12] ++ arrI .u8 f_1 16 0))) /\ nn (x_3 == x_5) x_1 fun (b o : Nat) => ∃ (f_2 : Nat -> Int), gimp (x_3 == x_5) (∀ (w' : World), S w' -> AtL w' b o (arrI .u8 f_2 32 0)) /\ bsp (x_3 == x_5) (CallsS Tryz.prog 23 #[.agg (arrI .u8 f_2 32 0).toArray, .string x, .int .i64 x_3] W fun (e : Ending) (w' : World) => ∃ (x : Int) (f_3 : Nat -> Int), ∃ (x_13 : ByteArray) (x_14 : Int), ∃ (x_15 : Bool) (p_1 : Option Addr), ∃ (n_2 : Nat) (c_1 : Nat), ∃ (x_16 : ByteArray) (x_17 : Int), ∃ (x_18 : Int) (f_4 : Nat -> Int), e = .returned (.agg ([Value.int .i64 x] ++ arrI .u8 f_3 32 0 ++ ([Value.string x_13, .int .i64 x_14, .bool x_15, .slice p_1 n_2 c_1, .string x_16, .int .i64 x_17, .int .i64 x_18] ++ arrI .u8 f_4 16 0)).toArray) /\ S w' /\ CallsS Tryz.prog 22 #[.agg
 ([Value.int .i64 x_6] ++ arrI .u8 f 32 0 ++ ([Value.string x_7, .int .i64 x_8, .bool x_9, .slice p n_1 c, .string x_10, .int .i64 x_11, .int .i64 x_12] ++ arrI .u8 f_1 16 0)).toArray, .agg ([Value.int .i64 x] ++ arrI .u8 f_3 32 0 ++ ([Value.string x_13, .int .i64 x_14, .bool x_15, .slice p_1 n_2 c_1, .string x_16, .int .i64 x_17, .int .i64 x_18] ++ arrI .u8 f_4 16 0)).toArray] w' fun (e : Ending) (w' : World) => ∃ (x : Bool), e = .returned (.bool x) /\ KeptL [n] W w' /\ R (.returned (.bool (true && x))) w') (S W /\ KeptL [n] W W /\ R (.returned (.bool false)) W)) (bsp (k.tmod 8 == 4) (∀ (W : World), Loc w.heap.size [Blk.mk n 66 [Value.int .u8 k, .int .u8 i, .int .u8 g, .int .u8 a, .int .i64 now, .string t] 0] w' W -> ∃ (S : World -> Prop), S W /\ nn true x_1 fun (b_1 o : Nat) => ∃ (f : Nat -> Int), (∀ (w' : World), S w' -> AtL w' b_1 o (arrI .u8 f 32 0)) /\
 nn true x_2 fun (b_2 o : Nat) => ∃ (f_1 : Nat -> Int), (∀ (w' : World), S w' -> AtL w' b_2 o (arrI .u8 f_1 16 0)) /\ ∃ (x_3 : Int), (∀ (w' : World), S w' -> w'.cell? (Addr.mk n (0 + 4) none) = some (.int .i64 x_3)) /\ nn true x_1 fun (b_3 o : Nat) => ∃ (f_2 : Nat -> Int), (∀ (w' : World), S w' -> AtL w' b_3 o (arrI .u8 f_2 32 0)) /\ nn true x_2 fun (b_4 o : Nat) => ∃ (f_3 : Nat -> Int), (∀ (w' : World), S w' -> AtL w' b_4 o (arrI .u8 f_3 16 0)) /\ ∃ (x_4 : Int), (∀ (w' : World), S w' -> w'.cell? (Addr.mk n (0 + 4) none) = some (.int .i64 x_4)) /\ CallsS Tryz.prog 24 #[.pointer (some (Addr.mk b 0 none)), .agg (arrI .u8 f 32 0).toArray, .string x, .agg (arrI .u8 f_1 16 0).toArray, .string (t.extract 0 (if 300 < (↑t.size : Int) then 300 else (↑t.size : Int)).toNat), .int .i64 x_3] W fun (e : Ending) (w' : World) => ∃ (x_5 : Int), e = .returned (.int .i64 x_5) /\ S w' /\
 CallsS Tryz.prog 27 #[.pointer (some (Addr.mk m 0 none)), .agg (arrI .u8 f_2 32 0).toArray, .string x, .agg (arrI .u8 f_3 16 0).toArray, .int .i64 2, .string (t.extract 0 (if 300 < (↑t.size : Int) then 300 else (↑t.size : Int)).toNat), .int .i64 x_4] w' fun (e : Ending) (w' : World) => ∃ (x : Int), e = .returned (.int .i64 x) /\ KeptL [n] W w' /\ R (.returned (.bool (x_5 == x))) w') (bsp (k.tmod 8 == 5) (∀ (W : World), Loc w.heap.size [Blk.mk n 66 [Value.int .u8 k, .int .u8 i, .int .u8 g, .int .u8 a, .int .i64 now, .string t] 0] w' W -> ∃ (S : World -> Prop), S W /\ ∃ (x : Int), (∀ (w' : World), S w' -> w'.cell? (Addr.mk n (0 + 4) none) = some (.int .i64 x)) /\ ∃ (x_3 : Int), (∀ (w' : World), S w' -> w'.cell? (Addr.mk n (0 + 4) none) = some (.int .i64 x_3)) /\ CallsS Tryz.prog 33 #[.pointer (some (Addr.mk b 0 none)), .int .i64 x] W fun (e : Ending) (w' : World) => ∃ (p : Option Addr),
 ∃ (n_1 : Nat) (c : Nat), e = .returned (.slice p n_1 c) /\ S w' /\ CallsS Tryz.prog 35 #[.pointer (some (Addr.mk m 0 none)), .int .i64 x_3] w' fun (e : Ending) (w' : World) => ∃ (p_1 : Option Addr) (n_2 : Nat) (c_1 : Nat), e = .returned (.slice p_1 n_2 c_1) /\ CallsS Tryz.prog 34 #[.slice p n_1 c, .slice p_1 n_2 c_1] w' fun (e : Ending) (w' : World) => ∃ (x : Bool), e = .returned (.bool x) /\ KeptL [n] W w' /\ R (.returned (.bool x)) w') (bsp (k.tmod 8 == 6) (∀ (W : World), Loc w.heap.size [Blk.mk n 66 [Value.int .u8 k, .int .u8 i, .int .u8 g, .int .u8 a, .int .i64 now, .string t] 0] w' W -> ∃ (S : World -> Prop), S W /\ ∃ (x : Int), (∀ (w' : World), S w' -> w'.cell? (Addr.mk n (0 + 4) none) = some (.int .i64 x)) /\ ∃ (x_3 : Int), (∀ (w' : World), S w' -> w'.cell? (Addr.mk n (0 + 4) none) = some (.int .i64 x_3)) /\
 CallsS Tryz.prog 44 #[.pointer (some (Addr.mk b 0 none)), .int .i64 x] W fun (e : Ending) (w' : World) => ∃ (x : Int), e = .returned (.int .i64 x) /\ S w' /\ CallsS Tryz.prog 64 #[.pointer (some (Addr.mk m 0 none)), .int .i64 x_3] w' fun (e : Ending) (w' : World) => ∃ (x_4 : Int), e = .returned (.int .i64 x_4) /\ KeptL [n] W w' /\ R (.returned (.bool (x == x_4))) w') (∃ (I : List Value -> World -> Prop) (m_1 : List Value -> World -> Nat), I [Value.int .i64 0, .slice none 0 0] w' /\ ∀ (x_3 : Int) (p : Option Addr) (n_1 c : Nat) (w' : World), I [Value.int .i64 x_3, .slice p n_1 c] w' -> Loc w.heap.size [Blk.mk n 66 [Value.int .u8 k, .int .u8 i, .int .u8 g, .int .u8 a, .int .i64 now, .string t] 0] w' w' -> bsp (decide (x_3 < (IntKind.i64.wrap a).tmod 12)) (∀ (n_2 : Nat) (W : World), Loc w.heap.size [Blk.mk n 66 [Value.int .u8 k, .int .u8 i, .int .u8 g,
 .int .u8 a, .int .i64 now, .string t] 0, Blk.mk n_2 45 [Value.int .u8 0, .int .u8 0, .int .u8 0, .int .u8 0, .int .u8 0, .int .u8 0, .int .u8 0, .int .u8 0, .int .u8 0, .int .u8 0, .int .u8 0, .int .u8 0, .int .u8 0, .int .u8 0, .int .u8 0, .int .u8 ((IntKind.u8.wrap (IntKind.i64.wrap (IntKind.i64.wrap (IntKind.i64.wrap i * x_3) + IntKind.i64.wrap a))).tmod 10)] 2] w' W -> ∃ (base : Nat) (xs : List Value), W.ownsRow base 45 16 (.slice p n_1 c) n_1 xs /\ n_1 + 1 <= 9223372036854775807 /\ (n_1 + 1) * 16 <= 140737488355328 /\ base <= W.heap.size /\ ∀ (p' : Option Addr) (c' : Nat) (w'_1 : World), w'_1.ownsRow base 45 16 (.slice p' (n_1 + 1) c') (n_1 + 1) (xs ++ [Value.int .u8 0, .int .u8 0, .int .u8 0, .int .u8 0, .int .u8 0, .int .u8 0, .int .u8 0, .int .u8 0, .int .u8 0, .int .u8 0, .int .u8 0, .int .u8 0, .int .u8 0, .int .u8 0, .int .u8 0, .int .u8 ((IntKind.u8.wrap
 (IntKind.i64.wrap (IntKind.i64.wrap (IntKind.i64.wrap i * x_3) + IntKind.i64.wrap a))).tmod 10)]) -> W.grownBy w'_1 (Value.slice p n_1 c).ownBlock -> AppL W p n_1 c 1 p' c' -> KeptL [n] W w'_1 /\ I [Value.int .i64 (IntKind.i64.wrap (x_3 + 1)), .slice p' (n_1 + 1) c'] w'_1 /\ m_1 [Value.int .i64 (IntKind.i64.wrap (x_3 + 1)), .slice p' (n_1 + 1) c'] w'_1 < m_1 [Value.int .i64 x_3, .slice p n_1 c] w') (CallsS Tryz.prog 38 #[.pointer (some (Addr.mk b 0 none)), .string x, .slice p n_1 c] w' fun (e : Ending) (w'_1 : World) => ∃ (x_4 : Int), e = .returned (.int .i64 x_4) /\ KeptL [n] w' w'_1 /\ CallsS Tryz.prog 25 #[.pointer (some (Addr.mk m 0 none)), .string x, .slice p n_1 c] w'_1 fun (e : Ending) (w' : World) => ∃ (x : Int), e = .returned (.int .i64 x) /\ KeptL [n] w'_1 w' /\ R (.returned (.bool (x_4 == x))) w'))))))))
theorem vc_ldo (b : Nat) (m : Nat) (k : Int) (i : Int) (g : Int) (a : Int) (now : Int) (t : ByteArray) (w : World) (R : Ending -> World -> Prop) (h : VC_ldo b m k i g a now t w R) : Calls Tryz.prog 31 ([Value.pointer (some { block := b, off := 0 }), .pointer (some { block := m, off := 0 }), .agg #[.int .u8 k, .int .u8 i, .int .u8 g, .int .u8 a, .int .i64 now, .string t]] : List Value).toArray w R :=
 calls_of_exec2' (loops := [(24, [(19, Ck.int .i64), (18, Ck.slice)])]) (tails := [(1, 2), (5, 6), (11, 6), (15, 8), (17, 7), (19, 3), (21, 3)]) (joins := [(2, [(8, Ck.str), (7, .ptr), (9, .ptr)]), (8, [(12, Ck.int .i64), (11, .ptr)]), (9, [(14, Ck.int .i64), (13, .ptr)]), (14, [(16, Ck.int .i64), (15, .ptr)]), (15, [(17, Ck.int .i64)])]) (boxes := []) (rngs := []) (c := Tryz.f31.body.getD .skip) pur1_ok Tryz.func31 (by kernel_rfl) (by kernel_rfl) h

end Go.Proofs.YtfacflbmlfbeeaaGreatDoor

/- Chapter 39: the contract of the law's do: what the queue and the model answer is the same. Printed by mkdo39.py. Bytes are bytes; lists are not too long; the library's variable MaxLen holds a number. -/
namespace Go.Proofs.YtfacflbmlfbeeaaGreatDoor
open Go.RowKit Go.Sort Go.Maps

theorem cmd_of (E : Int) {f : Nat → Int} (hf : BY f) (g : ByteArray) : ∃ (kk : Int) (ff : Nat → Int) (gg : ByteArray), BY ff ∧ cmdL E f g = apC kk ff gg := by
  unfold cmdL
  split
  · exact ⟨_, _, _, hf, rfl⟩
  · exact ⟨_, _, _, by0, rfl⟩
set_option maxRecDepth 100000 in
set_option maxHeartbeats 32000000 in
theorem ldo_any {w0 w : World} {b mb eb m n0 : Nat} {q : Qu} {M : Mo} {P : Pl} (h : SW w0 w b mb eb m q M P) (r : Rq n0 q M) (hn0 : n0 ≤ 5000) (hG : GW w0) (k i g a now : Int) (t : ByteArray) (hk0 : 0 ≤ k) (hi0 : 0 ≤ i ∧ i ≤ 255) (hg0 : 0 ≤ g ∧ g ≤ 255) (ha0 : 0 ≤ a ∧ a ≤ 255) :
    Calls Tryz.prog 31 #[.pointer (some ⟨b, 0, none⟩), .pointer (some ⟨m, 0, none⟩), .agg (([.int .u8 k, .int .u8 i, .int .u8 g, .int .u8 a, .int .i64 now, .string t] : List Value)).toArray] w fun e w' => e = .returned (.bool true) ∧ ∃ (q' : Qu) (M' : Mo) (P' : Pl), SW w0 w' b mb eb m q' M' P' ∧ Rq (n0 + 1) q' M' ∧ stpM k i g a now t M M' ∧ KD w w' := by
  refine vc_ldo b m k i g a now t w _ (fun n W hW => ?_)
  have kW : K0 w W := hW.kk rfl
  refine ⟨fun vs wx => ∃ n1 n2 : Nat, vs = [.string (nmG g), .pointer (some ⟨n1, 0, none⟩), .pointer (some ⟨n2, 0, none⟩)] ∧ wx.heap[n1]? = some (.cells (arrI .u8 (idN i) 32 0).toArray 32 (0, 0)) ∧ wx.heap[n2]? = some (.cells (arrI .u8 (auN a) 16 0).toArray 45 (0, 0)) ∧ K0 w wx, fun W1 hW1 => ?_, ?_⟩
  · have kW1' : K0 W W1 := hW1.kk rfl
    have hkW := kW.trans kW1'
    have hc := hW1.cells 0 rfl
    have hnW := block_lt hc
    simp only at hnW
    clear hW hW1
    have kW1 : K0 W1 W1 := .refl _ _
    refine ⟨fun wx => K0 W1 wx, kW1, i, fun wx k => cell_at (k.blk hc (fun h => h)) rfl, g, fun wx k => cell_at (k.blk hc (fun h => h)) rfl, a, fun wx k => cell_at (k.blk hc (fun h => h)) rfl, ?_⟩
    refine ⟨?_, ?_, ?_⟩
    · refine ⟨(lid_any i W1).mono fun e v0 ⟨he, kk0⟩ => ⟨_, he, kW1.trans kk0, ?_⟩⟩
      have kc0 := kW1.trans kk0
      refine ⟨?_, ?_, ?_⟩
      · refine ⟨(lname_any g hg0.1 v0).mono fun e v1 ⟨he, kk1⟩ => ⟨_, he, kc0.trans kk1, ?_⟩⟩
        have kc1 := kc0.trans kk1
        refine ⟨?_, ?_, ?_⟩
        · refine ⟨(lauthor_any a v1).mono fun e v2 ⟨he, kk2⟩ => ⟨_, he, ?_⟩⟩
          have kc2 := kc1.trans kk2
          refine ⟨?_, ?_⟩
          · intro n1 v3 hb3
            have kc3 := kc2.trans (hb3.kp (fun _ => False))
            have gX := Nat.le_trans kc2.size hb3.ge
            refine ⟨kc3, ?_⟩
            have cX3 := hb3.block
            intro n2 v4 hb4
            have kc4 := kc3.trans (hb4.kp (fun _ => False))
            have gY := Nat.le_trans kc3.size hb4.ge
            refine ⟨kc4, ?_⟩
            have cY4 := hb4.block
            have cX4 := (hb4.kp (fun _ => False)).blk cX3 (fun h => h)
            exact dofin kc4 gX gY cX4 rfl cY4 rfl (fun w2 kk a1 a2 => ⟨n1, n2, rfl, a1, a2, hkW.trans kk⟩)
          · intro n2 v3 hb3
            have kc3 := kc2.trans (hb3.kp (fun _ => False))
            have gY := Nat.le_trans kc2.size hb3.ge
            refine ⟨kc3, ?_⟩
            have cY3 := hb3.block
            intro n1 v4 hb4
            have kc4 := kc3.trans (hb4.kp (fun _ => False))
            have gX := Nat.le_trans kc3.size hb4.ge
            refine ⟨kc4, ?_⟩
            have cX4 := hb4.block
            have cY4 := (hb4.kp (fun _ => False)).blk cY3 (fun h => h)
            exact dofin kc4 gX gY cX4 rfl cY4 rfl (fun w2 kk a1 a2 => ⟨n1, n2, rfl, a1, a2, hkW.trans kk⟩)
        · intro n1 v2 hb2
          have kc2 := kc1.trans (hb2.kp (fun _ => False))
          have gX := Nat.le_trans kc1.size hb2.ge
          refine ⟨kc2, ?_⟩
          have cX2 := hb2.block
          refine ⟨?_, ?_⟩
          · refine ⟨(lauthor_any a v2).mono fun e v3 ⟨he, kk3⟩ => ⟨_, he, ?_⟩⟩
            have kc3 := kc2.trans kk3
            have cX3 := kk3.blk cX2 (fun h => h)
            intro n2 v4 hb4
            have kc4 := kc3.trans (hb4.kp (fun _ => False))
            have gY := Nat.le_trans kc3.size hb4.ge
            refine ⟨kc4, ?_⟩
            have cY4 := hb4.block
            have cX4 := (hb4.kp (fun _ => False)).blk cX3 (fun h => h)
            exact dofin kc4 gX gY cX4 rfl cY4 rfl (fun w2 kk a1 a2 => ⟨n1, n2, rfl, a1, a2, hkW.trans kk⟩)
          · intro n2 v3 hb3
            have kc3 := kc2.trans (hb3.kp (fun _ => False))
            have gY := Nat.le_trans kc2.size hb3.ge
            refine ⟨kc3, ?_⟩
            have cY3 := hb3.block
            have cX3 := (hb3.kp (fun _ => False)).blk cX2 (fun h => h)
            refine ⟨(lauthor_any a v3).mono fun e v4 ⟨he, kk4⟩ => ⟨_, he, ?_⟩⟩
            have kc4 := kc3.trans kk4
            have cX4 := kk4.blk cX3 (fun h => h)
            have cY4 := kk4.blk cY3 (fun h => h)
            exact dofin kc4 gX gY cX4 rfl cY4 rfl (fun w2 kk a1 a2 => ⟨n1, n2, rfl, a1, a2, hkW.trans kk⟩)
        · intro n2 v2 hb2
          have kc2 := kc1.trans (hb2.kp (fun _ => False))
          have gY := Nat.le_trans kc1.size hb2.ge
          refine ⟨kc2, ?_⟩
          have cY2 := hb2.block
          refine ⟨?_, ?_⟩
          · refine ⟨(lauthor_any a v2).mono fun e v3 ⟨he, kk3⟩ => ⟨_, he, ?_⟩⟩
            have kc3 := kc2.trans kk3
            have cY3 := kk3.blk cY2 (fun h => h)
            intro n1 v4 hb4
            have kc4 := kc3.trans (hb4.kp (fun _ => False))
            have gX := Nat.le_trans kc3.size hb4.ge
            refine ⟨kc4, ?_⟩
            have cX4 := hb4.block
            have cY4 := (hb4.kp (fun _ => False)).blk cY3 (fun h => h)
            exact dofin kc4 gX gY cX4 rfl cY4 rfl (fun w2 kk a1 a2 => ⟨n1, n2, rfl, a1, a2, hkW.trans kk⟩)
          · intro n1 v3 hb3
            have kc3 := kc2.trans (hb3.kp (fun _ => False))
            have gX := Nat.le_trans kc2.size hb3.ge
            refine ⟨kc3, ?_⟩
            have cX3 := hb3.block
            have cY3 := (hb3.kp (fun _ => False)).blk cY2 (fun h => h)
            refine ⟨(lauthor_any a v3).mono fun e v4 ⟨he, kk4⟩ => ⟨_, he, ?_⟩⟩
            have kc4 := kc3.trans kk4
            have cX4 := kk4.blk cX3 (fun h => h)
            have cY4 := kk4.blk cY3 (fun h => h)
            exact dofin kc4 gX gY cX4 rfl cY4 rfl (fun w2 kk a1 a2 => ⟨n1, n2, rfl, a1, a2, hkW.trans kk⟩)
      · intro n1 v1 hb1
        have kc1 := kc0.trans (hb1.kp (fun _ => False))
        have gX := Nat.le_trans kc0.size hb1.ge
        refine ⟨kc1, ?_⟩
        have cX1 := hb1.block
        refine ⟨?_, ?_⟩
        · refine ⟨(lname_any g hg0.1 v1).mono fun e v2 ⟨he, kk2⟩ => ⟨_, he, kc1.trans kk2, ?_⟩⟩
          have kc2 := kc1.trans kk2
          have cX2 := kk2.blk cX1 (fun h => h)
          refine ⟨?_, ?_⟩
          · refine ⟨(lauthor_any a v2).mono fun e v3 ⟨he, kk3⟩ => ⟨_, he, ?_⟩⟩
            have kc3 := kc2.trans kk3
            have cX3 := kk3.blk cX2 (fun h => h)
            intro n2 v4 hb4
            have kc4 := kc3.trans (hb4.kp (fun _ => False))
            have gY := Nat.le_trans kc3.size hb4.ge
            refine ⟨kc4, ?_⟩
            have cY4 := hb4.block
            have cX4 := (hb4.kp (fun _ => False)).blk cX3 (fun h => h)
            exact dofin kc4 gX gY cX4 rfl cY4 rfl (fun w2 kk a1 a2 => ⟨n1, n2, rfl, a1, a2, hkW.trans kk⟩)
          · intro n2 v3 hb3
            have kc3 := kc2.trans (hb3.kp (fun _ => False))
            have gY := Nat.le_trans kc2.size hb3.ge
            refine ⟨kc3, ?_⟩
            have cY3 := hb3.block
            have cX3 := (hb3.kp (fun _ => False)).blk cX2 (fun h => h)
            refine ⟨(lauthor_any a v3).mono fun e v4 ⟨he, kk4⟩ => ⟨_, he, ?_⟩⟩
            have kc4 := kc3.trans kk4
            have cX4 := kk4.blk cX3 (fun h => h)
            have cY4 := kk4.blk cY3 (fun h => h)
            exact dofin kc4 gX gY cX4 rfl cY4 rfl (fun w2 kk a1 a2 => ⟨n1, n2, rfl, a1, a2, hkW.trans kk⟩)
        · intro n2 v2 hb2
          have kc2 := kc1.trans (hb2.kp (fun _ => False))
          have gY := Nat.le_trans kc1.size hb2.ge
          refine ⟨kc2, ?_⟩
          have cY2 := hb2.block
          have cX2 := (hb2.kp (fun _ => False)).blk cX1 (fun h => h)
          refine ⟨(lname_any g hg0.1 v2).mono fun e v3 ⟨he, kk3⟩ => ⟨_, he, kc2.trans kk3, ?_⟩⟩
          have kc3 := kc2.trans kk3
          have cX3 := kk3.blk cX2 (fun h => h)
          have cY3 := kk3.blk cY2 (fun h => h)
          refine ⟨(lauthor_any a v3).mono fun e v4 ⟨he, kk4⟩ => ⟨_, he, ?_⟩⟩
          have kc4 := kc3.trans kk4
          have cX4 := kk4.blk cX3 (fun h => h)
          have cY4 := kk4.blk cY3 (fun h => h)
          exact dofin kc4 gX gY cX4 rfl cY4 rfl (fun w2 kk a1 a2 => ⟨n1, n2, rfl, a1, a2, hkW.trans kk⟩)
      · intro n2 v1 hb1
        have kc1 := kc0.trans (hb1.kp (fun _ => False))
        have gY := Nat.le_trans kc0.size hb1.ge
        refine ⟨kc1, ?_⟩
        have cY1 := hb1.block
        refine ⟨?_, ?_⟩
        · refine ⟨(lname_any g hg0.1 v1).mono fun e v2 ⟨he, kk2⟩ => ⟨_, he, kc1.trans kk2, ?_⟩⟩
          have kc2 := kc1.trans kk2
          have cY2 := kk2.blk cY1 (fun h => h)
          refine ⟨?_, ?_⟩
          · refine ⟨(lauthor_any a v2).mono fun e v3 ⟨he, kk3⟩ => ⟨_, he, ?_⟩⟩
            have kc3 := kc2.trans kk3
            have cY3 := kk3.blk cY2 (fun h => h)
            intro n1 v4 hb4
            have kc4 := kc3.trans (hb4.kp (fun _ => False))
            have gX := Nat.le_trans kc3.size hb4.ge
            refine ⟨kc4, ?_⟩
            have cX4 := hb4.block
            have cY4 := (hb4.kp (fun _ => False)).blk cY3 (fun h => h)
            exact dofin kc4 gX gY cX4 rfl cY4 rfl (fun w2 kk a1 a2 => ⟨n1, n2, rfl, a1, a2, hkW.trans kk⟩)
          · intro n1 v3 hb3
            have kc3 := kc2.trans (hb3.kp (fun _ => False))
            have gX := Nat.le_trans kc2.size hb3.ge
            refine ⟨kc3, ?_⟩
            have cX3 := hb3.block
            have cY3 := (hb3.kp (fun _ => False)).blk cY2 (fun h => h)
            refine ⟨(lauthor_any a v3).mono fun e v4 ⟨he, kk4⟩ => ⟨_, he, ?_⟩⟩
            have kc4 := kc3.trans kk4
            have cX4 := kk4.blk cX3 (fun h => h)
            have cY4 := kk4.blk cY3 (fun h => h)
            exact dofin kc4 gX gY cX4 rfl cY4 rfl (fun w2 kk a1 a2 => ⟨n1, n2, rfl, a1, a2, hkW.trans kk⟩)
        · intro n1 v2 hb2
          have kc2 := kc1.trans (hb2.kp (fun _ => False))
          have gX := Nat.le_trans kc1.size hb2.ge
          refine ⟨kc2, ?_⟩
          have cX2 := hb2.block
          have cY2 := (hb2.kp (fun _ => False)).blk cY1 (fun h => h)
          refine ⟨(lname_any g hg0.1 v2).mono fun e v3 ⟨he, kk3⟩ => ⟨_, he, kc2.trans kk3, ?_⟩⟩
          have kc3 := kc2.trans kk3
          have cX3 := kk3.blk cX2 (fun h => h)
          have cY3 := kk3.blk cY2 (fun h => h)
          refine ⟨(lauthor_any a v3).mono fun e v4 ⟨he, kk4⟩ => ⟨_, he, ?_⟩⟩
          have kc4 := kc3.trans kk4
          have cX4 := kk4.blk cX3 (fun h => h)
          have cY4 := kk4.blk cY3 (fun h => h)
          exact dofin kc4 gX gY cX4 rfl cY4 rfl (fun w2 kk a1 a2 => ⟨n1, n2, rfl, a1, a2, hkW.trans kk⟩)
    · intro n1 v0 hb0
      have kc0 := kW1.trans (hb0.kp (fun _ => False))
      have gX := Nat.le_trans kW1.size hb0.ge
      refine ⟨kc0, ?_⟩
      have cX0 := hb0.block
      refine ⟨?_, ?_⟩
      · refine ⟨(lid_any i v0).mono fun e v1 ⟨he, kk1⟩ => ⟨_, he, kc0.trans kk1, ?_⟩⟩
        have kc1 := kc0.trans kk1
        have cX1 := kk1.blk cX0 (fun h => h)
        refine ⟨?_, ?_⟩
        · refine ⟨(lname_any g hg0.1 v1).mono fun e v2 ⟨he, kk2⟩ => ⟨_, he, kc1.trans kk2, ?_⟩⟩
          have kc2 := kc1.trans kk2
          have cX2 := kk2.blk cX1 (fun h => h)
          refine ⟨?_, ?_⟩
          · refine ⟨(lauthor_any a v2).mono fun e v3 ⟨he, kk3⟩ => ⟨_, he, ?_⟩⟩
            have kc3 := kc2.trans kk3
            have cX3 := kk3.blk cX2 (fun h => h)
            intro n2 v4 hb4
            have kc4 := kc3.trans (hb4.kp (fun _ => False))
            have gY := Nat.le_trans kc3.size hb4.ge
            refine ⟨kc4, ?_⟩
            have cY4 := hb4.block
            have cX4 := (hb4.kp (fun _ => False)).blk cX3 (fun h => h)
            exact dofin kc4 gX gY cX4 rfl cY4 rfl (fun w2 kk a1 a2 => ⟨n1, n2, rfl, a1, a2, hkW.trans kk⟩)
          · intro n2 v3 hb3
            have kc3 := kc2.trans (hb3.kp (fun _ => False))
            have gY := Nat.le_trans kc2.size hb3.ge
            refine ⟨kc3, ?_⟩
            have cY3 := hb3.block
            have cX3 := (hb3.kp (fun _ => False)).blk cX2 (fun h => h)
            refine ⟨(lauthor_any a v3).mono fun e v4 ⟨he, kk4⟩ => ⟨_, he, ?_⟩⟩
            have kc4 := kc3.trans kk4
            have cX4 := kk4.blk cX3 (fun h => h)
            have cY4 := kk4.blk cY3 (fun h => h)
            exact dofin kc4 gX gY cX4 rfl cY4 rfl (fun w2 kk a1 a2 => ⟨n1, n2, rfl, a1, a2, hkW.trans kk⟩)
        · intro n2 v2 hb2
          have kc2 := kc1.trans (hb2.kp (fun _ => False))
          have gY := Nat.le_trans kc1.size hb2.ge
          refine ⟨kc2, ?_⟩
          have cY2 := hb2.block
          have cX2 := (hb2.kp (fun _ => False)).blk cX1 (fun h => h)
          refine ⟨(lname_any g hg0.1 v2).mono fun e v3 ⟨he, kk3⟩ => ⟨_, he, kc2.trans kk3, ?_⟩⟩
          have kc3 := kc2.trans kk3
          have cX3 := kk3.blk cX2 (fun h => h)
          have cY3 := kk3.blk cY2 (fun h => h)
          refine ⟨(lauthor_any a v3).mono fun e v4 ⟨he, kk4⟩ => ⟨_, he, ?_⟩⟩
          have kc4 := kc3.trans kk4
          have cX4 := kk4.blk cX3 (fun h => h)
          have cY4 := kk4.blk cY3 (fun h => h)
          exact dofin kc4 gX gY cX4 rfl cY4 rfl (fun w2 kk a1 a2 => ⟨n1, n2, rfl, a1, a2, hkW.trans kk⟩)
      · intro n2 v1 hb1
        have kc1 := kc0.trans (hb1.kp (fun _ => False))
        have gY := Nat.le_trans kc0.size hb1.ge
        refine ⟨kc1, ?_⟩
        have cY1 := hb1.block
        have cX1 := (hb1.kp (fun _ => False)).blk cX0 (fun h => h)
        refine ⟨(lid_any i v1).mono fun e v2 ⟨he, kk2⟩ => ⟨_, he, kc1.trans kk2, ?_⟩⟩
        have kc2 := kc1.trans kk2
        have cX2 := kk2.blk cX1 (fun h => h)
        have cY2 := kk2.blk cY1 (fun h => h)
        refine ⟨(lname_any g hg0.1 v2).mono fun e v3 ⟨he, kk3⟩ => ⟨_, he, kc2.trans kk3, ?_⟩⟩
        have kc3 := kc2.trans kk3
        have cX3 := kk3.blk cX2 (fun h => h)
        have cY3 := kk3.blk cY2 (fun h => h)
        refine ⟨(lauthor_any a v3).mono fun e v4 ⟨he, kk4⟩ => ⟨_, he, ?_⟩⟩
        have kc4 := kc3.trans kk4
        have cX4 := kk4.blk cX3 (fun h => h)
        have cY4 := kk4.blk cY3 (fun h => h)
        exact dofin kc4 gX gY cX4 rfl cY4 rfl (fun w2 kk a1 a2 => ⟨n1, n2, rfl, a1, a2, hkW.trans kk⟩)
    · intro n2 v0 hb0
      have kc0 := kW1.trans (hb0.kp (fun _ => False))
      have gY := Nat.le_trans kW1.size hb0.ge
      refine ⟨kc0, ?_⟩
      have cY0 := hb0.block
      refine ⟨?_, ?_⟩
      · refine ⟨(lid_any i v0).mono fun e v1 ⟨he, kk1⟩ => ⟨_, he, kc0.trans kk1, ?_⟩⟩
        have kc1 := kc0.trans kk1
        have cY1 := kk1.blk cY0 (fun h => h)
        refine ⟨?_, ?_⟩
        · refine ⟨(lname_any g hg0.1 v1).mono fun e v2 ⟨he, kk2⟩ => ⟨_, he, kc1.trans kk2, ?_⟩⟩
          have kc2 := kc1.trans kk2
          have cY2 := kk2.blk cY1 (fun h => h)
          refine ⟨?_, ?_⟩
          · refine ⟨(lauthor_any a v2).mono fun e v3 ⟨he, kk3⟩ => ⟨_, he, ?_⟩⟩
            have kc3 := kc2.trans kk3
            have cY3 := kk3.blk cY2 (fun h => h)
            intro n1 v4 hb4
            have kc4 := kc3.trans (hb4.kp (fun _ => False))
            have gX := Nat.le_trans kc3.size hb4.ge
            refine ⟨kc4, ?_⟩
            have cX4 := hb4.block
            have cY4 := (hb4.kp (fun _ => False)).blk cY3 (fun h => h)
            exact dofin kc4 gX gY cX4 rfl cY4 rfl (fun w2 kk a1 a2 => ⟨n1, n2, rfl, a1, a2, hkW.trans kk⟩)
          · intro n1 v3 hb3
            have kc3 := kc2.trans (hb3.kp (fun _ => False))
            have gX := Nat.le_trans kc2.size hb3.ge
            refine ⟨kc3, ?_⟩
            have cX3 := hb3.block
            have cY3 := (hb3.kp (fun _ => False)).blk cY2 (fun h => h)
            refine ⟨(lauthor_any a v3).mono fun e v4 ⟨he, kk4⟩ => ⟨_, he, ?_⟩⟩
            have kc4 := kc3.trans kk4
            have cX4 := kk4.blk cX3 (fun h => h)
            have cY4 := kk4.blk cY3 (fun h => h)
            exact dofin kc4 gX gY cX4 rfl cY4 rfl (fun w2 kk a1 a2 => ⟨n1, n2, rfl, a1, a2, hkW.trans kk⟩)
        · intro n1 v2 hb2
          have kc2 := kc1.trans (hb2.kp (fun _ => False))
          have gX := Nat.le_trans kc1.size hb2.ge
          refine ⟨kc2, ?_⟩
          have cX2 := hb2.block
          have cY2 := (hb2.kp (fun _ => False)).blk cY1 (fun h => h)
          refine ⟨(lname_any g hg0.1 v2).mono fun e v3 ⟨he, kk3⟩ => ⟨_, he, kc2.trans kk3, ?_⟩⟩
          have kc3 := kc2.trans kk3
          have cX3 := kk3.blk cX2 (fun h => h)
          have cY3 := kk3.blk cY2 (fun h => h)
          refine ⟨(lauthor_any a v3).mono fun e v4 ⟨he, kk4⟩ => ⟨_, he, ?_⟩⟩
          have kc4 := kc3.trans kk4
          have cX4 := kk4.blk cX3 (fun h => h)
          have cY4 := kk4.blk cY3 (fun h => h)
          exact dofin kc4 gX gY cX4 rfl cY4 rfl (fun w2 kk a1 a2 => ⟨n1, n2, rfl, a1, a2, hkW.trans kk⟩)
      · intro n1 v1 hb1
        have kc1 := kc0.trans (hb1.kp (fun _ => False))
        have gX := Nat.le_trans kc0.size hb1.ge
        refine ⟨kc1, ?_⟩
        have cX1 := hb1.block
        have cY1 := (hb1.kp (fun _ => False)).blk cY0 (fun h => h)
        refine ⟨(lid_any i v1).mono fun e v2 ⟨he, kk2⟩ => ⟨_, he, kc1.trans kk2, ?_⟩⟩
        have kc2 := kc1.trans kk2
        have cX2 := kk2.blk cX1 (fun h => h)
        have cY2 := kk2.blk cY1 (fun h => h)
        refine ⟨(lname_any g hg0.1 v2).mono fun e v3 ⟨he, kk3⟩ => ⟨_, he, kc2.trans kk3, ?_⟩⟩
        have kc3 := kc2.trans kk3
        have cX3 := kk3.blk cX2 (fun h => h)
        have cY3 := kk3.blk cY2 (fun h => h)
        refine ⟨(lauthor_any a v3).mono fun e v4 ⟨he, kk4⟩ => ⟨_, he, ?_⟩⟩
        have kc4 := kc3.trans kk4
        have cX4 := kk4.blk cX3 (fun h => h)
        have cY4 := kk4.blk cY3 (fun h => h)
        exact dofin kc4 gX gY cX4 rfl cY4 rfl (fun w2 kk a1 a2 => ⟨n1, n2, rfl, a1, a2, hkW.trans kk⟩)
  rintro xs x1 x2 w3 ⟨n1, n2, hv, c1, c2, k3⟩ hL
  simp only [List.cons.injEq, Value.string.injEq, Value.pointer.injEq, and_true] at hv
  obtain ⟨rfl, rfl, rfl⟩ := hv
  have ds : DS39 n n1 n2 [.int .u8 k, .int .u8 i, .int .u8 g, .int .u8 a, .int .i64 now, .string t] i a w3 := ⟨hL.cells 0 rfl, c1, c2⟩
  clear hW hL c1 c2
  have h3 := h.k0 k3
  have kd3 : KD w w3 := .k0 k3
  have hid := idN_ok hi0.1
  have hau := auN_ok ha0.1
  have hgs := nmG_sz g
  have ql : q.es.length ≤ 10000 := by have := r.ql; omega
  have om := r.mo (by omega)
  have htx := txO_sz t
  rw [txO_eq]
  have hm8 : 0 ≤ k.tmod 8 ∧ k.tmod 8 < 8 := by rw [Int.tmod_eq_emod_of_nonneg hk0]; omega
  have kp : ∀ {wa wb : World}, DS39 n n1 n2 [.int .u8 k, .int .u8 i, .int .u8 g, .int .u8 a, .int .i64 now, .string t] i a wa → KD wa wb → KeptL [n] wa wb := fun d kk => kk.kept (fun z hz => by
    rcases List.mem_singleton.1 hz with rfl
    exact ⟨_, _, _, d.1, rfl⟩)
  refine ⟨⟨by split <;> omega, by split <;> omega⟩, ?_⟩
  refine bsp_intro (fun hk => ?_) (fun hk0' => bsp_intro (fun hk => ?_) (fun hk1 => bsp_intro (fun hk => ?_) (fun hk2 => bsp_intro (fun hk => ?_) (fun hk3 => bsp_intro (fun hk => ?_) (fun hk4 => bsp_intro (fun hk => ?_) (fun hk5 => bsp_intro (fun hk => ?_) (fun hk6 => ?_)))))))
  · -- submit
    have hk : k.tmod 8 = 0 := by simpa using hk
    intro W4 hW4
    have k4 : K0 w3 W4 := hW4.kk rfl
    have d4 := ds.kd (.k0 k4)
    have h4 := h3.k0 k4
    clear hW4
    refine ⟨DS39 n n1 n2 _ i a, d4, nn_is rfl ⟨idN i, fun wx hx => AtL_block hx.2.1 rfl, now, fun wx hx => cell_at hx.1 rfl, nn_is rfl ⟨idN i, fun wx hx => AtL_block hx.2.1 rfl, now, fun wx hx => cell_at hx.1 rfl, ?_⟩⟩⟩
    refine ⟨(submit_any h4.mq r.qo (idN i) hid.1 (nmG g) (txO t) now (h4.gw hG)).mono fun e w5 ⟨he, hq5, k5⟩ => ?_⟩
    have kd5 := h4.mq.kd k5
    have h5 := h4.qop hq5 k5 (subQ_ms ..)
    refine ⟨_, he, d4.kd kd5, ⟨(xsubmit_any h5.mr om r.srt (idN i) hid.1 (nmG g) (txO t) now).mono fun e w6 ⟨he, hx, k6⟩ => ⟨_, he, kp d4 (kd5.trans (.mf k6)), ?_⟩⟩⟩
    have kd6 : KD w w6 := ((kd3.trans (.k0 k4)).trans kd5).trans (.mf k6)
    refine ⟨by rw [r.subE]; simp, ?_⟩
    rcases hx with ⟨hne, hM6⟩ | ⟨h0, L, P6, hp, hs, hM6⟩
    · exact ⟨_, M, P, h5.mop hM6 k6, r.sub_no hne, by unfold stpM; rw [hk]; exact .inr ⟨hne, rfl⟩, kd6⟩
    · exact ⟨_, _, P6, h5.mop hM6 k6, r.ins hid h0 hp hs, by unfold stpM; rw [hk]; exact .inl ⟨h0, L, hp, rfl⟩, kd6⟩
  · -- claim
    have hk : k.tmod 8 = 1 := by simpa using hk
    refine ⟨fun vs wx => ∃ (nq : Nat) (q' : Qu), vs = [.int .i64 (xclE M (nmG g) (auN a) now), .pointer (some ⟨nq, 0, none⟩)] ∧ wx.heap[nq]? = some (.cells (sbC (xclS M (nmG g) (auN a) now)).toArray 48 (0, 0)) ∧ SW w0 wx b mb eb m q' M P ∧ Rq n0 q' (xclM M (nmG g) (auN a) now) ∧ DS39 n n1 n2 [.int .u8 k, .int .u8 i, .int .u8 g, .int .u8 a, .int .i64 now, .string t] i a wx ∧ KD w wx, nn_is rfl ⟨auN a, AtL_block ds.2.2 rfl, ⟨(claim_any h3.mq r.qo (by omega) (nmG g) hgs (auN a) hau.1 now (h3.gw hG)).mono fun e w4 hcl => ?_⟩⟩, ?_⟩
    · rw [r.clE] at hcl
      rcases hcl with ⟨hne, he, k4⟩ | ⟨h0, x, hx, hmin, he, hq4, k4⟩
      · obtain ⟨eM, eS⟩ := xclM_no hne
        rw [eM, eS]
        refine ⟨sbz.id, sbz.g, sbz.tx, sbz.r, sbz.st, sbz.mo, sbz.de, sbz.rs, _, he, .of_k0 k4, fun nq W5 hW5 => ?_⟩
        have k5 := k4.trans (hW5.kk rfl : K0 w4 W5)
        exact ⟨nq, q, rfl, hW5.cells 1 rfl, h3.k0 k5, r, ds.kd (.k0 k5), kd3.trans (.k0 k5)⟩
      · obtain ⟨ex, rx⟩ := r.clm hau h0 hx hmin
        rw [← ex, h0]
        have kd4 := h3.mq.kd k4
        have h4 := h3.qop hq4 k4 rfl
        refine ⟨x.id, x.g, x.tx, x.r, x.st, x.mo, x.de, x.rs, _, he, kp ds kd4, fun nq W5 hW5 => ?_⟩
        have k5 : K0 w4 W5 := hW5.kk rfl
        exact ⟨nq, _, rfl, hW5.cells 1 rfl, h4.k0 k5, rx, (ds.kd kd4).kd (.k0 k5), (kd3.trans kd4).trans (.k0 k5)⟩
    rintro x3 x4 w5 ⟨nq, q', hv, cq, h5, r5, d5, kd5⟩ _
    simp only [List.cons.injEq, Value.int.injEq, Value.pointer.injEq, true_and, and_true] at hv
    obtain ⟨rfl, rfl⟩ := hv
    refine ⟨fun vs wx => ∃ (nm : Nat), vs = [.int .i64 (xclE M (nmG g) (auN a) now), .pointer (some ⟨nm, 0, none⟩)] ∧ wx.heap[nm]? = some (.cells (sbC (xclS M (nmG g) (auN a) now)).toArray 48 (0, 0)) ∧ wx.heap[nq]? = some (.cells (sbC (xclS M (nmG g) (auN a) now)).toArray 48 (0, 0)) ∧ SW w0 wx b mb eb m q' (xclM M (nmG g) (auN a) now) P ∧ KD w wx, nn_is rfl ⟨auN a, AtL_block d5.2.2 rfl, ⟨(xclaim_any h5.mr om (nmG g) (auN a) hau.1 now).mono fun e w6 ⟨he, hM6, k6⟩ => ?_⟩⟩, ?_⟩
    · have kd6 : KD w5 w6 := .mf k6
      refine ⟨(xclS M (nmG g) (auN a) now).id, (xclS M (nmG g) (auN a) now).g, (xclS M (nmG g) (auN a) now).tx, (xclS M (nmG g) (auN a) now).r, (xclS M (nmG g) (auN a) now).st, (xclS M (nmG g) (auN a) now).mo, (xclS M (nmG g) (auN a) now).de, (xclS M (nmG g) (auN a) now).rs, _, he, kp d5 kd6, fun nm W7 hW7 => ?_⟩
      have k7 : K0 w6 W7 := hW7.kk rfl
      exact ⟨nm, rfl, hW7.cells 1 rfl, k7.blk (kd6.2 _ _ _ _ cq rfl) (fun h => h), (h5.mop hM6 k6).k0 k7, (kd5.trans kd6).trans (.k0 k7)⟩
    rintro x6 x7 w8 ⟨nm, hv, cm, cq8, h8, kd8⟩ _
    simp only [List.cons.injEq, Value.int.injEq, Value.pointer.injEq, true_and, and_true] at hv
    obtain ⟨rfl, rfl⟩ := hv
    have oS := xclS_ok om (nmG g) (auN a) now
    have hstp : stpM k i g a now t M (xclM M (nmG g) (auN a) now) := by unfold stpM; rw [hk]; rfl
    generalize xclS M (nmG g) (auN a) now = S at cm cq8 oS
    refine nn_is rfl ⟨S.id, S.g, S.tx, S.r, S.st, S.mo, S.de, S.rs, AtL_block cq8 rfl, nn_is rfl ⟨S.id, S.g, S.tx, S.r, S.st, S.mo, S.de, S.rs, AtL_block cm rfl, _, sbEq oS oS, by simp, q', _, P, h8, r5.mono (by omega), hstp, kd8⟩⟩
  · -- release
    have hk : k.tmod 8 = 2 := by simpa using hk
    intro W4 hW4
    have k4 : K0 w3 W4 := hW4.kk rfl
    have d4 := ds.kd (.k0 k4)
    have h4 := h3.k0 k4
    clear hW4
    refine ⟨DS39 n n1 n2 _ i a, d4, nn_is rfl ⟨idN i, fun wx hx => AtL_block hx.2.1 rfl, nn_is rfl ⟨auN a, fun wx hx => AtL_block hx.2.2 rfl, now, fun wx hx => cell_at hx.1 rfl, nn_is rfl ⟨idN i, fun wx hx => AtL_block hx.2.1 rfl, nn_is rfl ⟨auN a, fun wx hx => AtL_block hx.2.2 rfl, now, fun wx hx => cell_at hx.1 rfl, ?_⟩⟩⟩⟩⟩
    refine ⟨(release_any h4.mq r.qo (idN i) hid.1 (nmG g) hgs (auN a) hau.1 now).mono fun e w5 ⟨he, hq5, k5⟩ => ?_⟩
    have kd5 := h4.mq.kd k5
    have h5 := h4.qop hq5 k5 (relQ_ms ..)
    refine ⟨_, he, d4.kd kd5, ⟨(xrelease_any h5.mr om (idN i) hid.1 (nmG g) (auN a) hau.1 now).mono fun e w6 ⟨he, hM6, k6⟩ => ⟨_, he, kp d4 (kd5.trans (.mf k6)), ?_⟩⟩⟩
    have kd6 : KD w w6 := ((kd3.trans (.k0 k4)).trans kd5).trans (.mf k6)
    exact ⟨by rw [r.rlE]; simp, _, _, P, h5.mop hM6 k6, (r.rel (idN i) (nmG g) (auN a) now).mono (by omega), by unfold stpM; rw [hk]; rfl, kd6⟩
  · -- approve
    have hk : k.tmod 8 = 3 := by simpa using hk
    obtain ⟨kk, ff, gg, hff, hcm⟩ := cmd_of (apE q (idN i) (nmG g) (auN a) now) hid.1 (nmG g)
    refine ⟨fun vs wx => ∃ (nc : Nat), vs = [.int .i64 (apE q (idN i) (nmG g) (auN a) now), .pointer (some ⟨nc, 0, none⟩)] ∧ wx.heap[nc]? = some (.cells (apC kk ff gg).toArray 42 (0, 0)) ∧ SW w0 wx b mb eb m (apQ q (idN i) (nmG g) (auN a) now 1 ⟨#[]⟩) M P ∧ DS39 n n1 n2 [.int .u8 k, .int .u8 i, .int .u8 g, .int .u8 a, .int .i64 now, .string t] i a wx ∧ KD w wx, nn_is rfl ⟨idN i, AtL_block ds.2.1 rfl, nn_is rfl ⟨auN a, AtL_block ds.2.2 rfl, ⟨(approve_any h3.mq r.qo ql (idN i) hid.1 (nmG g) hgs (auN a) hau.1 now).mono fun e w4 ⟨he, hq4, k4⟩ => ?_⟩⟩⟩, ?_⟩
    · rw [hcm] at he
      have kd4 := h3.mq.kd k4
      have h4 := h3.qop hq4 k4 (apQ_ms ..)
      refine ⟨kk, ff, gg, 0, false, none, 0, 0, ⟨#[]⟩, 0, 0, (fun _ => 0), _, he, kp ds kd4, fun nc W5 hW5 => ?_⟩
      have k5 : K0 w4 W5 := hW5.kk rfl
      exact ⟨nc, rfl, hW5.cells 1 rfl, h4.k0 k5, (ds.kd kd4).kd (.k0 k5), (kd3.trans kd4).trans (.k0 k5)⟩
    rintro x3 x4 w5 ⟨nc, hv, cc, h5, d5, kd5⟩ _
    simp only [List.cons.injEq, Value.int.injEq, Value.pointer.injEq, true_and, and_true] at hv
    obtain ⟨rfl, rfl⟩ := hv
    refine ⟨fun vs wx => vs = [.int .i64 (xdcE M (idN i) (nmG g) (auN a) 1 ⟨#[]⟩ now)] ∧ wx.heap[nc]? = some (.cells (apC kk ff gg).toArray 42 (0, 0)) ∧ SW w0 wx b mb eb m (apQ q (idN i) (nmG g) (auN a) now 1 ⟨#[]⟩) (xdcM M (idN i) (nmG g) (auN a) 1 ⟨#[]⟩ now) P ∧ DS39 n n1 n2 [.int .u8 k, .int .u8 i, .int .u8 g, .int .u8 a, .int .i64 now, .string t] i a wx ∧ KD w wx, nn_is rfl ⟨idN i, AtL_block d5.2.1 rfl, nn_is rfl ⟨auN a, AtL_block d5.2.2 rfl, ⟨(xdecide_any h5.mr om (idN i) hid.1 (nmG g) (auN a) hau.1 1 ⟨#[]⟩ (by decide) now).mono fun e w6 ⟨he, hM6, k6⟩ => ?_⟩⟩⟩, ?_⟩
    · have kd6 : KD w5 w6 := .mf k6
      exact ⟨_, he, kp d5 kd6, rfl, kd6.2 _ _ _ _ cc rfl, h5.mop hM6 k6, d5.kd kd6, kd5.trans kd6⟩
    rintro x6 w7 ⟨hv, cc7, h7, d7, kd7⟩ _ W8 hW8
    simp only [List.cons.injEq, Value.int.injEq, true_and, and_true] at hv
    subst hv
    have k8 : K0 w7 W8 := hW8.kk rfl
    have cc8 := k8.blk cc7 (fun h => h)
    have d8 := d7.kd (.k0 k8)
    have h8 := h7.k0 k8
    have kd8 := kd7.trans (.k0 k8)
    clear hW8
    rw [r.apE] at hcm ⊢
    have hbb : (xdcE M (idN i) (nmG g) (auN a) 1 ⟨#[]⟩ now == xdcE M (idN i) (nmG g) (auN a) 1 ⟨#[]⟩ now) = true := by simp
    simp only [hbb]
    refine ⟨fun wx => wx.heap[nc]? = some (.cells (apC kk ff gg).toArray 42 (0, 0)) ∧ DS39 n n1 n2 [.int .u8 k, .int .u8 i, .int .u8 g, .int .u8 a, .int .i64 now, .string t] i a wx, ⟨cc8, d8⟩, nn_is rfl ⟨kk, ff, gg, 0, false, none, 0, 0, ⟨#[]⟩, 0, 0, (fun _ => 0), gimp_intro fun _ wx hx => AtL_block hx.1 rfl, nn_is rfl ⟨idN i, gimp_intro fun _ wx hx => AtL_block hx.2.2.1 rfl, bsp_intro (fun _ => ?_) (fun h => by cases h)⟩⟩⟩
    refine ⟨(xcomm_any (idN i) (nmG g) (xdcE M (idN i) (nmG g) (auN a) 1 ⟨#[]⟩ now) W8).mono fun e w9 ⟨he, k9⟩ => ?_⟩
    rw [hcm] at he
    refine ⟨kk, ff, gg, 0, false, none, 0, 0, ⟨#[]⟩, 0, 0, (fun _ => 0), he, ⟨k9.blk cc8 (fun h => h), d8.kd (.k0 k9)⟩, ⟨(ceq_any kk ff hff gg w9).mono fun e w10 ⟨he, k10⟩ => ⟨_, he, .of_k0 (k9.trans k10), rfl, _, _, P, h8.k0 (k9.trans k10), r.ap hau |>.mono (by omega), by unfold stpM; rw [hk]; rfl, kd8.trans (.k0 (k9.trans k10))⟩⟩⟩
  · -- reject
    have hk : k.tmod 8 = 4 := by simpa using hk
    intro W4 hW4
    have k4 : K0 w3 W4 := hW4.kk rfl
    have d4 := ds.kd (.k0 k4)
    have h4 := h3.k0 k4
    clear hW4
    refine ⟨DS39 n n1 n2 _ i a, d4, nn_is rfl ⟨idN i, fun wx hx => AtL_block hx.2.1 rfl, nn_is rfl ⟨auN a, fun wx hx => AtL_block hx.2.2 rfl, now, fun wx hx => cell_at hx.1 rfl, nn_is rfl ⟨idN i, fun wx hx => AtL_block hx.2.1 rfl, nn_is rfl ⟨auN a, fun wx hx => AtL_block hx.2.2 rfl, now, fun wx hx => cell_at hx.1 rfl, ?_⟩⟩⟩⟩⟩
    refine ⟨(reject_any h4.mq r.qo ql (idN i) hid.1 (nmG g) hgs (auN a) hau.1 (txO t) now).mono fun e w5 ⟨he, hq5, k5⟩ => ?_⟩
    have kd5 := h4.mq.kd k5
    have h5 := h4.qop hq5 k5 (rejQ_ms ..)
    refine ⟨_, he, d4.kd kd5, ⟨(xdecide_any h5.mr om (idN i) hid.1 (nmG g) (auN a) hau.1 2 (txO t) (by omega) now).mono fun e w6 ⟨he, hM6, k6⟩ => ⟨_, he, kp d4 (kd5.trans (.mf k6)), ?_⟩⟩⟩
    have kd6 : KD w w6 := ((kd3.trans (.k0 k4)).trans kd5).trans (.mf k6)
    exact ⟨by rw [r.rjE]; simp, _, _, P, h5.mop hM6 k6, r.rj hau |>.mono (by omega), by unfold stpM; rw [hk]; rfl, kd6⟩
  · -- lapse
    have hk : k.tmod 8 = 5 := by simpa using hk
    intro W4 hW4
    have k4 : K0 w3 W4 := hW4.kk rfl
    have d4 := ds.kd (.k0 k4)
    have h4 := h3.k0 k4
    clear hW4
    have oL := xlpL_ok om now
    have hlL : (xlpL M now).length ≤ 1000000 := by
      have := r.el
      unfold xlpL
      split
      · rw [List.length_map]
        have := List.length_filter_le (lapP (now - M.days * 1440)) M.es
        omega
      · show 0 ≤ _; omega
    refine ⟨DS39 n n1 n2 _ i a, d4, now, fun wx hx => cell_at hx.1 rfl, now, fun wx hx => cell_at hx.1 rfl, ⟨(lapse_any h4.mq r.qo ql now (h4.gw hG)).mono fun e w5 hla => ?_⟩⟩
    have key : ∃ (p : Option Addr) (c : Nat) (q5 : Qu), e = .returned (.slice p (xlpL M now).length c) ∧ RowA sbC 54 w5 p (xlpL M now) ∧ (∀ g' o, p = some ⟨g', o, none⟩ → ∃ cc ff, w5.heap[g']? = some (.cells cc 48 ff)) ∧ SW w0 w5 b mb eb m q5 M P ∧ Rq n0 q5 (xlpM M now) ∧ KD W4 w5 := by
      rcases hla with ⟨hm, he, _, k5⟩ | ⟨hm, p, c, L, he, hp, hs, ho, hq5, k5⟩
      · have e1 : xlpL M now = [] := by unfold xlpL; rw [if_neg (by rw [hm]; decide)]
        have e2 : xlpM M now = M := by unfold xlpM; rw [if_neg (by rw [hm]; decide)]
        rw [e1, e2]
        exact ⟨none, 0, q, he, RowA.nil, (fun g' o e => by cases e), h4.k0 k5, r, .k0 k5⟩
      · obtain ⟨e1, r5⟩ := r.lap hm hp hs
        have hl : L.length = (xlpL M now).length := by rw [← e1, List.length_map]
        rw [e1, hl] at ho
        rw [hl] at he
        refine ⟨p, c, _, he, RowA.own ho sbC_length (by decide), fun g' o e => ?_, h4.qop hq5 k5 (finA_ms ..), r5, h4.mq.kd k5⟩
        subst e
        obtain ⟨cc, hcc⟩ := own_type ho (k := g') rfl
        exact ⟨cc, _, hcc⟩
    obtain ⟨p, c, q5, he, hR5, hT5, h5, r5, kd5⟩ := key
    refine ⟨_, _, _, he, d4.kd kd5, ⟨(xlapse_any h5.mr om now).mono fun e w6 ⟨⟨p6, c6, he, ho6⟩, hM6, k6⟩ => ?_⟩⟩
    have kd6 : KD w5 w6 := .mf k6
    have hR6 : RowA sbC 54 w6 p (xlpL M now) := fun jj y hy => by
      obtain ⟨bb, oo, h1, h2⟩ := hR5 jj y hy
      obtain ⟨cc, ff, hcc⟩ := hT5 bb oo h1
      exact ⟨bb, oo, h1, ⟨At_of _ _ fun jx u hu => k6.cell' (h2.cell hu) (mf_no hcc (by decide))⟩⟩
    refine ⟨_, _, _, he, ⟨(xsame_any (xlpL M now) p p6 c c6 w6 hR6 (RowA.own ho6 sbC_length (by decide)) hlL oL).mono fun e w7 ⟨he, k7⟩ => ⟨_, he, kp d4 ((kd5.trans kd6).trans (.k0 k7)), rfl, q5, _, P, (h5.mop hM6 k6).k0 k7, r5.mono (by omega), by unfold stpM; rw [hk]; rfl, (((kd3.trans (.k0 k4)).trans kd5).trans kd6).trans (.k0 k7)⟩⟩⟩
  · -- forget
    have hk : k.tmod 8 = 6 := by simpa using hk
    intro W4 hW4
    have k4 : K0 w3 W4 := hW4.kk rfl
    have d4 := ds.kd (.k0 k4)
    have h4 := h3.k0 k4
    clear hW4
    refine ⟨DS39 n n1 n2 _ i a, d4, now, fun wx hx => cell_at hx.1 rfl, now, fun wx hx => cell_at hx.1 rfl, ⟨(forget_any h4.mq r.qo ql now).mono fun e w5 ⟨⟨L, he, hp, hq5⟩, k5⟩ => ?_⟩⟩
    obtain ⟨hl, r5⟩ := r.fgt hp
    have kd5 := h4.mq.kd k5
    have h5 := h4.qop hq5 k5 (delA_ms ..)
    refine ⟨_, he, d4.kd kd5, ⟨(xforget_any h5.mr (by have := r.el; omega) now).mono fun e w6 ⟨he, ⟨P6, hM6⟩, k6⟩ => ⟨_, he, kp d4 (kd5.trans (.mf k6)), ?_⟩⟩⟩
    have kd6 : KD w w6 := ((kd3.trans (.k0 k4)).trans kd5).trans (.mf k6)
    exact ⟨by rw [hl]; simp, _, _, P6, h5.mop hM6 k6, r5.mono (by omega), by unfold stpM; rw [hk]; rfl, kd6⟩
  · -- the moderators
    have hk : k.tmod 8 = 7 := by
      simp only [beq_eq_false_iff_ne, ne_eq] at hk0' hk1 hk2 hk3 hk4 hk5 hk6
      omega
    have ha12 : (IntKind.i64.wrap a).tmod 12 = ((a.tmod 12).toNat : Int) := by
      rw [wr64 (by omega) (by omega), Int.tmod_eq_emod_of_nonneg ha0.1]
      omega
    rw [ha12]
    have hT : (a.tmod 12).toNat ≤ 11 := by rw [Int.tmod_eq_emod_of_nonneg ha0.1]; omega
    generalize hN : (a.tmod 12).toNat = N at hT
    refine ⟨fun vs wx => ∃ (j : Nat) (p : Option Addr) (c : Nat), vs = [.int .i64 (j : Int), .slice p j c] ∧ j ≤ N ∧ wx.ownsRow w3.heap.size 45 16 (.slice p j c) j ((moT i a j).flatMap auC) ∧ K0 w3 wx, fun vs _ => (match vs with | .int _ a :: _ => N - a.toNat | _ => 0), ⟨0, none, 0, rfl, by omega, World.ownsRow_nil _ _ _ _, .refl _ _⟩, ?_⟩
    rintro x3 p j c w4 ⟨j', p', c', hv, hj, ho, k4⟩ _
    simp only [List.cons.injEq, Value.int.injEq, Value.slice.injEq, true_and, and_true] at hv
    obtain ⟨rfl, rfl, rfl, rfl⟩ := hv
    refine bsp_intro (fun hlt n4 W5 hW5 => ?_) (fun hge => ?_)
    · have hlt : j < N := by simp at hlt; omega
      have k5 : K0 w4 W5 := hW5.kk rfl
      have hn5 : KeptL [n] W5 W5 := .refl _ _
      have cw := hW5.cells 0 rfl
      have hcell : ∀ ys : List Value, (ys = auC (auK i a (j : Int))) → (moT i a j).flatMap auC ++ ys = (moT i a (j + 1)).flatMap auC := fun ys e => by
        rw [e, moT_succ, List.flatMap_append, List.flatMap_cons, List.flatMap_nil, List.append_nil]
      have hwr : IntKind.i64.wrap (IntKind.i64.wrap (IntKind.i64.wrap i * (j : Int)) + IntKind.i64.wrap a) = i * (j : Int) + a := by
        have hij : 0 ≤ i * (j : Int) ∧ i * (j : Int) ≤ 255 * 11 := ⟨Int.mul_nonneg hi0.1 (by omega), Int.mul_le_mul hi0.2 (by omega) (by omega) (by decide)⟩
        rw [wr64 (x := i) (by omega) (by omega), wr64 (x := a) (by omega) (by omega), wr64 (x := i * (j : Int)) (by omega) (by omega), wr64 (by omega) (by omega)]
      rw [hwr]
      refine ⟨w3.heap.size, _, owns_kp ho k5 (fun _ _ h => h), by omega, by omega, Nat.le_trans k4.size k5.size, fun p6 c6 w6 ho6 hg6 _ => ?_⟩
      have kg := kp_grown hg6
      have k6 : K0 w3 w6 := (k4.trans k5).fresh kg (fun jj hjj e => by have := own_ge ho e; omega)
      rw [inc64 (by omega)]
      have ho6 : w6.ownsRow w3.heap.size 45 16 (.slice p6 (j + 1) c6) (j + 1) ((moT i a j).flatMap auC ++ auC (auK i a (j : Int))) := ho6
      rw [hcell _ rfl] at ho6
      refine ⟨.of_kp kg (fun z hz e => ?_), ⟨j + 1, p6, c6, rfl, hlt, ho6, k6⟩, by simp only [Int.toNat_natCast]; omega⟩
      rcases List.mem_singleton.1 hz with rfl
      have h1 := own_ge ho e
      have h2 := block_lt ds.1
      omega
    · have hjN : j = N := by simp at hge; omega
      subst hjN
      have hml : moT i a j = moL i a := by unfold moT moL; rw [hN]
      have hlen : (moL i a).length = j := by rw [moL_len, hN]
      rw [hml] at ho
      have h4 := h3.k0 k4
      have d4 := ds.kd (.k0 k4)
      have ho' : w4.ownsRow w3.heap.size 45 16 (.slice p (moL i a).length c) (moL i a).length ((moL i a).flatMap auC) := by rw [hlen]; exact ho
      have hR4 : RowA auC 16 w4 p (moL i a) := RowA.own ho' auC_length (by decide)
      have hlt4 : ∀ g' o, p = some ⟨g', o, none⟩ → g' < w4.heap.size := fun g' o e => by subst e; exact own_lt ho rfl
      have hb := fun z hz => (moL_ok (i := i) (a := a) z hz).1
      have hset := setModsQ_any h4.mq h4.qs (nmG g) (moL i a) p c hR4 hlt4 hb (h4.gw hG)
      rw [hlen] at hset
      refine ⟨hset.mono fun e w5 ⟨he, ⟨q5, hs5, hq5, hQ5⟩, k5⟩ => ?_⟩
      have kd5 := h4.mq.kd k5
      have h5 := h4.qopS hq5 hQ5 k5
      refine ⟨_, he, kp d4 kd5, ?_⟩
      have hR5 : RowA auC 16 w5 p (moL i a) := RowA.own (kd5.own ho' rfl) auC_length (by decide)
      have hxs := xset_any h5.mr (by have := r.gl; omega) (nmG g) (moL i a) p c hR5 hb
      rw [hlen] at hxs
      refine ⟨hxs.mono fun e w6 ⟨he, hx, k6⟩ => ⟨_, he, kp (d4.kd kd5) (.mf k6), by simp, ?_⟩⟩
      have kd6 : KD w w6 := ((kd3.trans (.k0 k4)).trans kd5).trans (.mf k6)
      rcases hx with ⟨hne, hM6⟩ | ⟨h0, X, P6, hp6, hs6, hM6⟩
      · have e5 : q5 = q := by
          rcases hs5 with ⟨_, e⟩ | ⟨e, _⟩ | ⟨e, _⟩
          · exact e
          · exact absurd e hne
          · exact absurd e hne
        subst e5
        exact ⟨_, M, P, h5.mop hM6 k6, r.mono (by omega), by unfold stpM; rw [hk]; exact .inr ⟨hne, rfl⟩, kd6⟩
      · exact ⟨_, _, P6, h5.mop hM6 k6, r.setr moL_ok hs5 h0 hp6 hs6, by unfold stpM; rw [hk]; exact .inl ⟨h0, X, hp6, hs6, rfl⟩, kd6⟩

end Go.Proofs.YtfacflbmlfbeeaaGreatDoor

/- The formulas of functions by the symbolic evaluator, and that each gives the call's contract. Written by a program (gen.py). No condition. -/
namespace Go.Proofs.YtfacflbmlfbeeaaGreatDoor
set_option maxRecDepth 100000
set_option linter.unusedVariables false

def VC_lplay (p : Option Addr) (n : Nat) (c : Nat) (mx : Int) (w : World) (R : Ending -> World -> Prop) : Prop := CallsS Tryz.prog 17 #[.int .i64 4, .int .i64 2] w fun (e : Ending) (w' : World) => ∃ (x : Option Addr) (x_1 : Option Addr), e = .returned (.tuple #[.pointer x, .pointer x_1]) /\ KeptL [] w w' /\ ∃ (I : List Value -> World -> Prop) (m : List Value -> World -> Nat), I [Value.int .i64 0] w' /\ ∀ (x_2 : Int) (w' : World), I [Value.int .i64 x_2] w' -> bsp (decide (x_2 < (↑n : Int)) && decide (x_2 < mx)) (nn true p fun (b o : Nat) => (0 <= x_2 /\ x_2 < (↑n : Int)) /\ ∃ (x_3 : Int) (x_4 : Int), ∃ (x_5 : Int) (x_6 : Int), ∃ (x_7 : Int) (x_8 : ByteArray), AtL w' b (o + x_2.toNat * 6) [Value.int .u8 x_3, .int .u8 x_4, .int .u8 x_5, .int .u8 x_6, .int .i64 x_7, .string x_8] /\ CallsS Tryz.prog 31 #[.pointer x, .pointer x_1, .agg
 #[.int .u8 x_3, .int .u8 x_4, .int .u8 x_5, .int .u8 x_6, .int .i64 x_7, .string x_8]] w' fun (e : Ending) (w'_1 : World) => ∃ (x_9 : Bool), e = .returned (.bool x_9) /\ KeptL [] w' w'_1 /\ bsp (!x_9) (R (.returned (.tuple #[.pointer x, .pointer x_1, .bool false])) w'_1) (I [Value.int .i64 (IntKind.i64.wrap (x_2 + 1))] w'_1 /\ m [Value.int .i64 (IntKind.i64.wrap (x_2 + 1))] w'_1 < m [Value.int .i64 x_2] w')) (R (.returned (.tuple #[.pointer x, .pointer x_1, .bool true])) w')
theorem vc_lplay (p : Option Addr) (n : Nat) (c : Nat) (mx : Int) (w : World) (R : Ending -> World -> Prop) (h : VC_lplay p n c mx w R) : Calls Tryz.prog 28 ([Value.slice p n c, .int .i64 mx] : List Value).toArray w R :=
 calls_of_exec2' (loops := [(3, [(9, Ck.int .i64)])]) (tails := []) (joins := []) (boxes := []) (rngs := []) (c := Tryz.f28.body.getD .skip) pur1_ok Tryz.func28 (by kernel_rfl) (by kernel_rfl) h

end Go.Proofs.YtfacflbmlfbeeaaGreatDoor

/- The formulas of functions by the symbolic evaluator, and that each gives the call's contract. Written by a program (gen.py). No condition. -/
namespace Go.Proofs.YtfacflbmlfbeeaaGreatDoor
set_option maxRecDepth 100000
set_option linter.unusedVariables false

def VC_lops (p : Option Addr) (n : Nat) (c : Nat) (w : World) (R : Ending -> World -> Prop) : Prop := CallsS Tryz.prog 14 #[] w fun (e : Ending) (w' : World) => ∃ (x : Bool), e = .returned (.bool x) /\ KeptL [] w w' /\ bsp (!x) (R (.returned (.bool false)) w') (CallsS Tryz.prog 28 #[.slice p n c, .int .i64 40] w' fun (e : Ending) (w'_1 : World) => ∃ (x : Option Addr) (x_1 : Option Addr) (x_2 : Bool), e = .returned (.tuple #[.pointer x, .pointer x_1, .bool x_2]) /\ KeptL [] w' w'_1 /\ R (.returned (.bool x_2)) w'_1)
theorem vc_lops (p : Option Addr) (n : Nat) (c : Nat) (w : World) (R : Ending -> World -> Prop) (h : VC_lops p n c w R) : Calls Tryz.prog 5 ([Value.slice p n c] : List Value).toArray w R :=
 calls_of_exec2' (loops := []) (tails := []) (joins := []) (boxes := []) (rngs := []) (c := Tryz.f5.body.getD .skip) pur1_ok Tryz.func5 (by kernel_rfl) (by kernel_rfl) h

end Go.Proofs.YtfacflbmlfbeeaaGreatDoor

/- The formulas of functions by the symbolic evaluator, and that each gives the call's contract. Written by a program (gen.py). No condition. -/
namespace Go.Proofs.YtfacflbmlfbeeaaGreatDoor
set_option maxRecDepth 100000
set_option linter.unusedVariables false

end Go.Proofs.YtfacflbmlfbeeaaGreatDoor

/- Chapter 39: the contracts of the law's play, of ModerationOperations and of ModerationLapses. Bytes are bytes; numbers can be written; the library's variable MaxLen holds a number. -/
namespace Go.Proofs.YtfacflbmlfbeeaaGreatDoor
open Go.RowKit Go.Sort Go.Maps

/-- What the first j operations make of the model. -/
def Chn (r d : Int) (L : List OpZ) : Nat → Mo → Prop
  | 0, M => M0 r d M
  | j + 1, M' => ∃ (M : Mo) (x : OpZ), Chn r d L j M ∧ L[j]? = some x ∧ stpM x.k x.i x.g x.a x.now x.t M M' ∧ M'.es.Pairwise fun x y => cfM x.s y.s < 0
theorem Chn.det {r d : Int} {L : List OpZ} : ∀ {j : Nat} {M N : Mo}, Chn r d L j M → Chn r d L j N → MoE M N
  | 0, _, _, h1, h2 => M0.moe h1 h2
  | j + 1, _, _, ⟨_, x, h1, hx, s1, p1⟩, ⟨_, y, h2, hy, s2, p2⟩ => by
    rw [hx] at hy
    cases hy
    exact (Chn.det h1 h2).step s1 s2 p1 p2
/-- What stands after some operations. -/
structure Pd (r d : Int) (L : List OpZ) (w w' : World) (b mb eb m j : Nat) (q : Qu) (M : Mo) (P : Pl) : Prop where
  sw : SW w w' b mb eb m q M P
  rq : Rq (2 + j) q M
  ch : Chn r d L j M
  st : St r d M
  nm : NmD M
theorem Pd.k0 {r d : Int} {L : List OpZ} {w w' w2 : World} {b mb eb m j : Nat} {q : Qu} {M : Mo} {P : Pl} (h : Pd r d L w w' b mb eb m j q M P) (k : K0 w' w2) : Pd r d L w w2 b mb eb m j q M P := ⟨h.sw.k0 k, h.rq, h.ch, h.st, h.nm⟩
set_option maxRecDepth 100000 in
set_option maxHeartbeats 4000000 in
/-- One operation more. -/
theorem Pd.do {r d : Int} {L : List OpZ} {w w' : World} {b mb eb m j : Nat} {q : Qu} {M : Mo} {P : Pl} (h : Pd r d L w w' b mb eb m j q M P) (hj : j ≤ 40) (hG : GW w) {x : OpZ} (hx : L[j]? = some x) (ho : x.R) :
    Calls Tryz.prog 31 #[.pointer (some ⟨b, 0, none⟩), .pointer (some ⟨m, 0, none⟩), .agg (([.int .u8 x.k, .int .u8 x.i, .int .u8 x.g, .int .u8 x.a, .int .i64 x.now, .string x.t] : List Value)).toArray] w' fun e w2 => e = .returned (.bool true) ∧ ∃ (q' : Qu) (M' : Mo) (P' : Pl), Pd r d L w w2 b mb eb m (j + 1) q' M' P' ∧ stpM x.k x.i x.g x.a x.now x.t M M' ∧ KD w' w2 :=
  (ldo_any h.sw h.rq (by omega) hG x.k x.i x.g x.a x.now x.t ho.k.1 ho.i ho.g ho.a).mono fun e w2 ⟨he, q', M', P', h2, r2, hs, kd⟩ => ⟨he, q', M', P', ⟨h2, r2, ⟨M, x, h.ch, hx, hs, r2.srt⟩, h.st.step h.rq.dis hs, h.nm.step hs⟩, hs, kd⟩
set_option maxRecDepth 100000 in
set_option maxHeartbeats 4000000 in
theorem lplay_any (p : Option Addr) (L : List OpZ) (c : Nat) (mx : Int) (w : World) (hR : RowA opC39 6 w p L) (hL : ∀ x ∈ L, x.R) (hl : L.length ≤ 4611686018427387904) (hmx : 0 ≤ mx ∧ mx ≤ 40) (hG : GW w) :
    Calls Tryz.prog 28 #[.slice p L.length c, .int .i64 mx] w fun e w' => ∃ (b mb eb m j : Nat) (q : Qu) (M : Mo) (P : Pl), e = .returned (.tuple #[.pointer (some ⟨b, 0, none⟩), .pointer (some ⟨m, 0, none⟩), .bool true]) ∧ Pd 4 2 L w w' b mb eb m j q M P ∧ j = min L.length mx.toNat := by
  refine vc_lplay p L.length c mx w _ ⟨(lstart_any 4 2 (by decide) w hG).mono fun e w1 ⟨b, mb, eb, m, q, M, P, he, h, r, h0, _⟩ => ⟨_, _, he, .of_k0 h.k, ?_⟩⟩
  refine ⟨fun vs w' => ∃ (j : Nat) (q : Qu) (M : Mo) (P : Pl), vs = [.int .i64 (j : Int)] ∧ j ≤ L.length ∧ j ≤ mx.toNat ∧ Pd 4 2 L w w' b mb eb m j q M P, fun vs _ => (match vs with | .int _ a :: _ => L.length - a.toNat | _ => 0), ⟨0, q, M, P, rfl, by omega, by omega, h, r, h0, h0.st (by decide), h0.nm⟩, ?_⟩
  rintro x2 w2 ⟨j, q2, M2, P2, hv, hj, hjm, h2⟩
  simp only [List.cons.injEq, Value.int.injEq, true_and, and_true] at hv
  subst hv
  refine bsp_intro (fun hlt => ?_) (fun hge => ?_)
  · have hlt : j < L.length ∧ (j : Int) < mx := by simp at hlt; omega
    obtain ⟨x, bb, o, hx, hp, hat⟩ := (hR.k0 h2.sw.k).get hlt.1
    have ho := hL x (List.mem_of_getElem? hx)
    rw [Int.toNat_natCast]
    refine nn_is hp ⟨⟨by omega, by omega⟩, x.k, x.i, x.g, x.a, x.now, x.t, hat, ⟨(h2.do (by omega) hG hx ho).mono fun e w3 ⟨he, q3, M3, P3, h3, _, kd⟩ => ⟨_, he, kd.kept (fun z hz => by cases hz), bsp_intro (fun h => by cases h) (fun _ => ?_)⟩⟩⟩
    rw [inc64 (by omega)]
    exact ⟨⟨j + 1, q3, M3, P3, rfl, hlt.1, by omega, h3⟩, by simp only [Int.toNat_natCast]; omega⟩
  · have hge : ¬ ((j : Int) < L.length ∧ (j : Int) < mx) := by
      simp only [Bool.and_eq_false_iff, decide_eq_false_iff_not] at hge
      omega
    exact ⟨b, mb, eb, m, j, q2, M2, P2, rfl, h2, by omega⟩
theorem lops_any (p : Option Addr) (L : List OpZ) (c : Nat) (w : World) (hR : RowA opC39 6 w p L) (hL : ∀ x ∈ L, x.R) (hl : L.length ≤ 4611686018427387904) (hG : GW w) :
    Calls Tryz.prog 5 #[.slice p L.length c] w fun e w' => e = .returned (.bool true) ∧ K0 w w' := by
  refine vc_lops p L.length c w _ ⟨(known_any w hG).mono fun e w1 ⟨he, k1⟩ => ⟨_, he, .of_k0 k1, bsp_intro (fun h => by cases h) (fun _ => ?_)⟩⟩
  exact ⟨(lplay_any p L c 40 w1 (hR.k0 k1) hL hl (by decide) (hG.kp k1 (fun h => h))).mono fun e w2 ⟨b, mb, eb, m, j, q, M, P, he, h, _⟩ => ⟨_, _, _, he, .of_k0 h.sw.k, rfl, k1.trans h.sw.k⟩⟩

/-! ### Lapses -/
theorem SW.lapse {w0 w : World} {b mb eb m n : Nat} {q : Qu} {M : Mo} {P : Pl} (h : SW w0 w b mb eb m q M P) (r : Rq n q M) (hn : n ≤ 10000) (hG : GW w0) (now : Int) :
    Calls Tryz.prog 33 #[.pointer (some ⟨b, 0, none⟩), .int .i64 now] w fun e w' => ∃ (p : Option Addr) (c : Nat) (q5 : Qu), e = .returned (.slice p (xlpL M now).length c) ∧ RowA sbC 54 w' p (xlpL M now) ∧ (∀ g' o, p = some ⟨g', o, none⟩ → ∃ cc ff, w'.heap[g']? = some (.cells cc 48 ff)) ∧ SW w0 w' b mb eb m q5 M P ∧ Rq n q5 (xlpM M now) ∧ KD w w' :=
  (lapse_any h.mq r.qo (by have := r.ql; omega) now (h.gw hG)).mono fun e w5 hla => by
    rcases hla with ⟨hm, he, _, k5⟩ | ⟨hm, p, c, L, he, hp, hs, ho, hq5, k5⟩
    · have e1 : xlpL M now = [] := by unfold xlpL; rw [if_neg (by rw [hm]; decide)]
      have e2 : xlpM M now = M := by unfold xlpM; rw [if_neg (by rw [hm]; decide)]
      rw [e1, e2]
      exact ⟨none, 0, q, he, RowA.nil, (fun g' o e => by cases e), h.k0 k5, r, .k0 k5⟩
    · obtain ⟨e1, r5⟩ := r.lap hm hp hs
      have hl : L.length = (xlpL M now).length := by rw [← e1, List.length_map]
      rw [e1, hl] at ho
      rw [hl] at he
      refine ⟨p, c, _, he, RowA.own ho sbC_length (by decide), fun g' o e => ?_, h.qop hq5 k5 (finA_ms ..), r5, h.mq.kd k5⟩
      subst e
      obtain ⟨cc, hcc⟩ := own_type ho (k := g') rfl
      exact ⟨cc, _, hcc⟩
end Go.Proofs.YtfacflbmlfbeeaaGreatDoor
