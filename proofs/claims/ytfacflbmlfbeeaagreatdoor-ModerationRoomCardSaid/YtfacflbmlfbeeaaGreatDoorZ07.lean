/- The formulas of functions by the symbolic evaluator, and that each gives the call's contract. Written by a program (gen.py). No condition. -/
import Derived.Test.YtfacflbmlfbeeaaGreatDoorProg
import Derived.Test.YtfacflbmlfbeeaaGreatDoorZ02
import Derived.Test.YtfacflbmlfbeeaaGreatDoorZ04
import Derived.Test.YtfacflbmlfbeeaaGreatDoorZ03
import Derived.KernelRfl
import Derived.Test.YtfacflbmlfbeeaaGreatDoorZ06
namespace Go.Proofs.YtfacflbmlfbeeaaGreatDoor
set_option maxRecDepth 100000
set_option linter.unusedVariables false

def VC_decide (b : Nat) (i : Nat -> Int) (s : ByteArray) (a : Nat -> Int) (now : Int) (st : Int) (rs : ByteArray) (w : World) (R : Ending -> World -> Prop) : Prop := ∀ (n n_1 : Nat) (W : World), Loc w.heap.size [Blk.mk n_1 45 (arrI .u8 a 16 0) 2, Blk.mk n 32 (arrI .u8 i 32 0) 2] w W -> CallsS Tryz.prog 75 #[.pointer (some (Addr.mk b 0 none)), .string s, .agg (arrI .u8 a 16 0).toArray] W fun (e : Ending) (w' : World) => ∃ (x : Bool), e = .returned (.bool x) /\ KeptL [n_1, n] W w' /\ bsp (!x) (R (.returned (.int .i64 20)) w') (∀ (W : World), Loc w.heap.size [Blk.mk n_1 45 (arrI .u8 a 16 0) 0, Blk.mk n 32 (arrI .u8 i 32 0) 0] w' W -> ∃ (S : World -> Prop), S W /\ ∃ (x : Option Nat), (∀ (w' : World), S w' -> w'.cell? (Addr.mk b (0 + 4) none) = some (.map x)) /\ ∃ (f : Nat -> Int), (∀ (w' : World), S w' -> AtL w' n 0 (arrI .u8 f 32 0)) /\ ∃ (f_1 : Nat -> Int) (x_1 : ByteArray),
 ∃ (x_2 : ByteArray) (x_3 : Int), ∃ (x_4 : Int) (f_2 : Nat -> Int), ∃ (x_5 : Int) (x_6 : ByteArray), ∃ (x_7 : Bool) (f_3 : Nat -> Int), ∃ (x_8 : Int) (b_1 : Bool), (∀ (w' : World), S w' -> LookP Tryz.prog 96 (.map x) (.agg (arrI .u8 f 32 0 ++ [Value.string s]).toArray) true (.tuple #[.agg (arrI .u8 f_1 32 0 ++ ([Value.string x_1, .string x_2, .int .i64 x_3, .int .i64 x_4] ++ arrI .u8 f_2 16 0 ++ ([Value.int .i64 x_5, .string x_6, .bool x_7] ++ arrI .u8 f_3 16 0 ++ [Value.int .i64 x_8]))).toArray, .bool b_1]) w') /\ ∀ (n_2 : Nat) (w1 : World), NewB W (Obj.cells #[.int .u8 0, .int .u8 0, .int .u8 0, .int .u8 0, .int .u8 0, .int .u8 0, .int .u8 0, .int .u8 0, .int .u8 0, .int .u8 0, .int .u8 0, .int .u8 0, .int .u8 0, .int .u8 0, .int .u8 0, .int .u8 0, .int .u8 0, .int .u8 0, .int .u8 0, .int .u8 0, .int .u8 0, .int .u8 0, .int .u8 0, .int .u8 0,
 .int .u8 0, .int .u8 0, .int .u8 0, .int .u8 0, .int .u8 0, .int .u8 0, .int .u8 0, .int .u8 0, .string (ByteArray.mk #[]), .string (ByteArray.mk #[]), .int .i64 0, .int .i64 0, .int .u8 0, .int .u8 0, .int .u8 0, .int .u8 0, .int .u8 0, .int .u8 0, .int .u8 0, .int .u8 0, .int .u8 0, .int .u8 0, .int .u8 0, .int .u8 0, .int .u8 0, .int .u8 0, .int .u8 0, .int .u8 0, .int .i64 0, .string (ByteArray.mk #[]), .bool false, .int .u8 0, .int .u8 0, .int .u8 0, .int .u8 0, .int .u8 0, .int .u8 0, .int .u8 0, .int .u8 0, .int .u8 0, .int .u8 0, .int .u8 0, .int .u8 0, .int .u8 0, .int .u8 0, .int .u8 0, .int .u8 0, .int .i64 0] 107) n_2 w1 -> S w1 /\ WrL w1 n_2 0 72 /\ ∀ (w1_1 : World), PutB w1 n_2 0 (arrI .u8 f_1 32 0 ++ ([Value.string x_1,
 .string x_2, .int .i64 x_3, .int .i64 x_4] ++ arrI .u8 f_2 16 0 ++ ([Value.int .i64 x_5, .string x_6, .bool x_7] ++ arrI .u8 f_3 16 0 ++ [Value.int .i64 x_8]))) w1_1 -> KeptL [n_1, n] W w1_1 /\ bsp (!b_1) (R (.returned (.int .i64 8)) w1_1) (∃ (x : Int), w1_1.cell? (Addr.mk n_2 (0 + 35) none) = some (.int .i64 x) /\ bsp (x != 0) (R (.returned (.int .i64 10)) w1_1) (∃ (f : Nat -> Int) (x : ByteArray), ∃ (x_9 : ByteArray) (x_10 : Int), ∃ (x_11 : Int) (f_4 : Nat -> Int), ∃ (x_12 : Int) (x_13 : ByteArray), ∃ (x_14 : Bool) (f_5 : Nat -> Int) (x_15 : Int), AtL w1_1 n_2 0 (arrI .u8 f 32 0 ++ ([Value.string x, .string x_9, .int .i64 x_10, .int .i64 x_11] ++ arrI .u8 f_4 16 0 ++ ([Value.int .i64 x_12, .string x_13, .bool x_14] ++ arrI .u8 f_5 16 0 ++ [Value.int .i64 x_15]))) /\ CallsS Tryz.prog 77 #[.agg (arrI .u8 f 32 0 ++ ([Value.string x, .string x_9, .int .i64 x_10,
 .int .i64 x_11] ++ arrI .u8 f_4 16 0 ++ ([Value.int .i64 x_12, .string x_13, .bool x_14] ++ arrI .u8 f_5 16 0 ++ [Value.int .i64 x_15]))).toArray, .agg (arrI .u8 a 16 0).toArray, .int .i64 now] w1_1 fun (e : Ending) (w' : World) => ∃ (x : Bool), e = .returned (.bool x) /\ KeptL [n_1, n] w1_1 w' /\ bsp x (R (.returned (.int .i64 25)) w') (∃ (f : Nat -> Int) (x : ByteArray), ∃ (x_16 : ByteArray) (x_17 : Int), ∃ (x_18 : Int) (f_6 : Nat -> Int), ∃ (x_19 : Int) (x_20 : ByteArray), AtL w' n_2 0 (arrI .u8 f 32 0 ++ ([Value.string x, .string x_16, .int .i64 x_17, .int .i64 x_18] ++ arrI .u8 f_6 16 0 ++ [Value.int .i64 x_19, .string x_20])) /\ CallsS Tryz.prog 70 #[.pointer (some (Addr.mk b 0 none)), .agg (arrI .u8 f 32 0 ++ ([Value.string x, .string x_16, .int .i64 x_17, .int .i64 x_18] ++ arrI .u8 f_6 16 0 ++ [Value.int .i64 x_19, .string x_20])).toArray, .agg
 (arrI .u8 a 16 0).toArray, .int .i64 now, .int .i64 st, .string rs] w' fun (e : Ending) (w'_1 : World) => ∃ (f : Nat -> Int) (x : ByteArray), ∃ (x_21 : ByteArray) (x_22 : Int), ∃ (x_23 : Int) (f_7 : Nat -> Int), ∃ (x_24 : Int) (x_25 : ByteArray), e = .returned (.agg (arrI .u8 f 32 0 ++ ([Value.string x, .string x_21, .int .i64 x_22, .int .i64 x_23] ++ arrI .u8 f_7 16 0 ++ [Value.int .i64 x_24, .string x_25])).toArray) /\ KeptL [n_1, n] w' w'_1 /\ R (.returned (.int .i64 0)) w'_1))))
theorem vc_decide (b : Nat) (i : Nat -> Int) (s : ByteArray) (a : Nat -> Int) (now : Int) (st : Int) (rs : ByteArray) (w : World) (R : Ending -> World -> Prop) (h : VC_decide b i s a now st rs w R) : Calls Tryz.prog 50 ([Value.pointer (some { block := b, off := 0 }), .agg (arrI .u8 i 32 0).toArray, .string s, .agg (arrI .u8 a 16 0).toArray, .int .i64 now, .int .i64 st, .string rs] : List Value).toArray w R :=
 calls_of_exec2' (loops := []) (tails := [(3, 11)]) (joins := []) (boxes := []) (rngs := []) (c := Tryz.f50.body.getD .skip) pur1_ok Tryz.func50 (by kernel_rfl) (by kernel_rfl) h

def VC_finish (b : Nat) (id : Nat -> Int) (mo : Nat -> Int) (g : ByteArray) (t : ByteArray) (r : Int) (st : Int) (de : Int) (rs : ByteArray) (a : Nat -> Int) (now : Int) (sn : Int) (rn : ByteArray) (w : World) (R : Ending -> World -> Prop) : Prop := ∀ (n n_1 n_2 : Nat) (W : World), Loc w.heap.size [Blk.mk n_2 48 [Value.int .u8 0, .int .u8 0, .int .u8 0, .int .u8 0, .int .u8 0, .int .u8 0, .int .u8 0, .int .u8 0, .int .u8 0, .int .u8 0, .int .u8 0, .int .u8 0, .int .u8 0, .int .u8 0, .int .u8 0, .int .u8 0, .int .u8 0, .int .u8 0, .int .u8 0, .int .u8 0, .int .u8 0, .int .u8 0, .int .u8 0, .int .u8 0, .int .u8 0, .int .u8 0, .int .u8 0, .int .u8 0, .int .u8 0, .int .u8 0, .int .u8 0, .int .u8 0, .string (ByteArray.mk #[]), .string (ByteArray.mk #[]), .int .i64 0, .int .i64 0, .int .u8 0, .int .u8 0, .int .u8 0, .int .u8 0, .int .u8 0, .int .u8 0, .int .u8 0,
 .int .u8 0, .int .u8 0, .int .u8 0, .int .u8 0, .int .u8 0, .int .u8 0, .int .u8 0, .int .u8 0, .int .u8 0, .int .i64 0, .string (ByteArray.mk #[])] 2, Blk.mk n_1 45 (arrI .u8 a 16 0) 2, Blk.mk n 48 (arrI .u8 id 32 0 ++ ([Value.string g, .string t, .int .i64 r, .int .i64 st] ++ arrI .u8 mo 16 0 ++ [Value.int .i64 de, .string rs])) 2] w W -> ∃ (S : World -> Prop), S W /\ ∃ (f : Nat -> Int), (∀ (w' : World), S w' -> AtL w' n_1 0 (arrI .u8 f 16 0)) /\ ((∃ (u : Value), W.cell? (Addr.mk n (0 + 35) none) = some u) /\ W.frozen? (Addr.mk n (0 + 35) none) = false) /\ ∀ (w1 : World), PutB W n (0 + 35) [Value.int .i64 sn] w1 -> S w1 /\ WrL w1 n (0 + 36) 16 /\ ∀ (w1_1 : World), PutB w1 n (0 + 36) (arrI .u8 f 16 0) w1_1 -> ((∃ (u : Value), w1_1.cell? (Addr.mk n (0 + 52) none) = some u) /\ w1_1.frozen? (Addr.mk n (0 + 52) none) = false) /\ ∀ (w1 : World),
 PutB w1_1 n (0 + 52) [Value.int .i64 now] w1 -> ((∃ (u : Value), w1.cell? (Addr.mk n (0 + 53) none) = some u) /\ w1.frozen? (Addr.mk n (0 + 53) none) = false) /\ ∀ (w1_2 : World), PutB w1 n (0 + 53) [Value.string rn] w1_2 -> KeptL [n_2, n_1] W w1_2 /\ ∃ (x : Option Nat), (∀ (W : World), Loc w.heap.size [Blk.mk n_2 48 [Value.int .u8 0, .int .u8 0, .int .u8 0, .int .u8 0, .int .u8 0, .int .u8 0, .int .u8 0, .int .u8 0, .int .u8 0, .int .u8 0, .int .u8 0, .int .u8 0, .int .u8 0, .int .u8 0, .int .u8 0, .int .u8 0, .int .u8 0, .int .u8 0, .int .u8 0, .int .u8 0, .int .u8 0, .int .u8 0, .int .u8 0, .int .u8 0, .int .u8 0, .int .u8 0, .int .u8 0, .int .u8 0, .int .u8 0, .int .u8 0, .int .u8 0, .int .u8 0, .string (ByteArray.mk #[]), .string (ByteArray.mk #[]), .int .i64 0, .int .i64 0, .int .u8 0, .int .u8 0, .int .u8 0, .int .u8 0, .int .u8 0, .int .u8 0, .int .u8 0, .int .u8 0, .int .u8 0,
 .int .u8 0, .int .u8 0, .int .u8 0, .int .u8 0, .int .u8 0, .int .u8 0, .int .u8 0, .int .i64 0, .string (ByteArray.mk #[])] 0, Blk.mk n_1 45 (arrI .u8 a 16 0) 0] w1_2 W -> W.cell? (Addr.mk b (0 + 4) none) = some (.map x)) /\ ∃ (f : Nat -> Int), (∀ (W : World), Loc w.heap.size [Blk.mk n_2 48 [Value.int .u8 0, .int .u8 0, .int .u8 0, .int .u8 0, .int .u8 0, .int .u8 0, .int .u8 0, .int .u8 0, .int .u8 0, .int .u8 0, .int .u8 0, .int .u8 0, .int .u8 0, .int .u8 0, .int .u8 0, .int .u8 0, .int .u8 0, .int .u8 0, .int .u8 0, .int .u8 0, .int .u8 0, .int .u8 0, .int .u8 0, .int .u8 0, .int .u8 0, .int .u8 0, .int .u8 0, .int .u8 0, .int .u8 0, .int .u8 0, .int .u8 0, .int .u8 0, .string (ByteArray.mk #[]), .string (ByteArray.mk #[]), .int .i64 0, .int .i64 0, .int .u8 0, .int .u8 0, .int .u8 0, .int .u8 0, .int .u8 0, .int .u8 0, .int .u8 0, .int .u8 0, .int .u8 0,
 .int .u8 0, .int .u8 0, .int .u8 0, .int .u8 0, .int .u8 0, .int .u8 0, .int .u8 0, .int .i64 0, .string (ByteArray.mk #[])] 0, Blk.mk n_1 45 (arrI .u8 a 16 0) 0] w1_2 W -> AtL W n 0 (arrI .u8 f 32 0)) /\ ∃ (x_1 : ByteArray), (∀ (W : World), Loc w.heap.size [Blk.mk n_2 48 [Value.int .u8 0, .int .u8 0, .int .u8 0, .int .u8 0, .int .u8 0, .int .u8 0, .int .u8 0, .int .u8 0, .int .u8 0, .int .u8 0, .int .u8 0, .int .u8 0, .int .u8 0, .int .u8 0, .int .u8 0, .int .u8 0, .int .u8 0, .int .u8 0, .int .u8 0, .int .u8 0, .int .u8 0, .int .u8 0, .int .u8 0, .int .u8 0, .int .u8 0, .int .u8 0, .int .u8 0, .int .u8 0, .int .u8 0, .int .u8 0, .int .u8 0, .int .u8 0, .string (ByteArray.mk #[]), .string (ByteArray.mk #[]), .int .i64 0, .int .i64 0, .int .u8 0, .int .u8 0, .int .u8 0, .int .u8 0, .int .u8 0, .int .u8 0, .int .u8 0, .int .u8 0, .int .u8 0, .int .u8 0, .int .u8 0, .int .u8 0,
 .int .u8 0, .int .u8 0, .int .u8 0, .int .u8 0, .int .i64 0, .string (ByteArray.mk #[])] 0, Blk.mk n_1 45 (arrI .u8 a 16 0) 0] w1_2 W -> W.cell? (Addr.mk n (0 + 32) none) = some (.string x_1)) /\ ∃ (f_1 : Nat -> Int) (x_2 : ByteArray), ∃ (x_3 : ByteArray) (x_4 : Int), ∃ (x_5 : Int) (f_2 : Nat -> Int), ∃ (x_6 : Int) (x_7 : ByteArray), (∀ (W : World), Loc w.heap.size [Blk.mk n_2 48 [Value.int .u8 0, .int .u8 0, .int .u8 0, .int .u8 0, .int .u8 0, .int .u8 0, .int .u8 0, .int .u8 0, .int .u8 0, .int .u8 0, .int .u8 0, .int .u8 0, .int .u8 0, .int .u8 0, .int .u8 0, .int .u8 0, .int .u8 0, .int .u8 0, .int .u8 0, .int .u8 0, .int .u8 0, .int .u8 0, .int .u8 0, .int .u8 0, .int .u8 0, .int .u8 0, .int .u8 0, .int .u8 0, .int .u8 0, .int .u8 0, .int .u8 0, .int .u8 0, .string (ByteArray.mk #[]), .string (ByteArray.mk #[]), .int .i64 0, .int .i64 0, .int .u8 0,
 .int .u8 0, .int .u8 0, .int .u8 0, .int .u8 0, .int .u8 0, .int .u8 0, .int .u8 0, .int .u8 0, .int .u8 0, .int .u8 0, .int .u8 0, .int .u8 0, .int .u8 0, .int .u8 0, .int .u8 0, .int .i64 0, .string (ByteArray.mk #[])] 0, Blk.mk n_1 45 (arrI .u8 a 16 0) 0] w1_2 W -> AtL W n 0 (arrI .u8 f_1 32 0 ++ ([Value.string x_2, .string x_3, .int .i64 x_4, .int .i64 x_5] ++ arrI .u8 f_2 16 0 ++ [Value.int .i64 x_6, .string x_7]))) /\ ∀ (W : World), Loc w.heap.size [Blk.mk n_2 48 [Value.int .u8 0, .int .u8 0, .int .u8 0, .int .u8 0, .int .u8 0, .int .u8 0, .int .u8 0, .int .u8 0, .int .u8 0, .int .u8 0, .int .u8 0, .int .u8 0, .int .u8 0, .int .u8 0, .int .u8 0, .int .u8 0, .int .u8 0, .int .u8 0, .int .u8 0, .int .u8 0, .int .u8 0, .int .u8 0, .int .u8 0, .int .u8 0, .int .u8 0, .int .u8 0, .int .u8 0, .int .u8 0, .int .u8 0, .int .u8 0, .int .u8 0, .int .u8 0,
 .string (ByteArray.mk #[]), .string (ByteArray.mk #[]), .int .i64 0, .int .i64 0, .int .u8 0, .int .u8 0, .int .u8 0, .int .u8 0, .int .u8 0, .int .u8 0, .int .u8 0, .int .u8 0, .int .u8 0, .int .u8 0, .int .u8 0, .int .u8 0, .int .u8 0, .int .u8 0, .int .u8 0, .int .u8 0, .int .i64 0, .string (ByteArray.mk #[])] 0, Blk.mk n_1 45 (arrI .u8 a 16 0) 0] w1_2 W -> ∃ (w1 : World), UpdP Tryz.prog 96 (.map x) (.agg (arrI .u8 f 32 0 ++ [Value.string x_1]).toArray) (.agg (arrI .u8 f_1 32 0 ++ ([Value.string x_2, .string x_3, .int .i64 x_4, .int .i64 x_5] ++ arrI .u8 f_2 16 0 ++ [Value.int .i64 x_6, .string x_7, .bool false, .int .u8 0, .int .u8 0, .int .u8 0, .int .u8 0, .int .u8 0, .int .u8 0, .int .u8 0, .int .u8 0, .int .u8 0, .int .u8 0, .int .u8 0, .int .u8 0, .int .u8 0, .int .u8 0, .int .u8 0, .int .u8 0, .int .i64 0])).toArray) W w1 /\ KeptL [n_2, n_1] W w1 /\ ∃ (x : Int),
 w1.cell? (Addr.mk b (0 + 2) none) = some (.int .i64 x) /\ ((∃ (u : Value), w1.cell? (Addr.mk b (0 + 2) none) = some u) /\ w1.frozen? (Addr.mk b (0 + 2) none) = false) /\ ∀ (w1_3 : World), PutB w1 b (0 + 2) [Value.int .i64 (IntKind.i64.wrap (x - 1))] w1_3 -> KeptL [n_2, n_1] w1 w1_3 /\ ∃ (f : Nat -> Int) (x : ByteArray), ∃ (x_8 : ByteArray) (x_9 : Int), ∃ (x_10 : Int) (f_3 : Nat -> Int), ∃ (x_11 : Int) (x_12 : ByteArray), AtL w1_3 n 0 (arrI .u8 f 32 0 ++ ([Value.string x, .string x_8, .int .i64 x_9, .int .i64 x_10] ++ arrI .u8 f_3 16 0 ++ [Value.int .i64 x_11, .string x_12])) /\ ∀ (W : World), Loc w.heap.size [Blk.mk n_2 48 (arrI .u8 f 32 0 ++ ([Value.string x, .string x_8, .int .i64 x_9, .int .i64 x_10] ++ arrI .u8 f_3 16 0 ++ [Value.int .i64 x_11, .string x_12])) (wrM 0), Blk.mk n_1 45 (arrI .u8 a 16 0) 0] w1_3 W -> R (.returned (.agg
 (arrI .u8 f 32 0 ++ ([Value.string x, .string x_8, .int .i64 x_9, .int .i64 x_10] ++ arrI .u8 f_3 16 0 ++ [Value.int .i64 x_11, .string x_12])).toArray)) W
theorem vc_finish (b : Nat) (id : Nat -> Int) (mo : Nat -> Int) (g : ByteArray) (t : ByteArray) (r : Int) (st : Int) (de : Int) (rs : ByteArray) (a : Nat -> Int) (now : Int) (sn : Int) (rn : ByteArray) (w : World) (R : Ending -> World -> Prop) (h : VC_finish b id mo g t r st de rs a now sn rn w R) : Calls Tryz.prog 70 ([Value.pointer (some { block := b, off := 0 }), .agg (arrI .u8 id 32 0 ++ ([Value.string g, .string t, .int .i64 r, .int .i64 st] ++ (arrI .u8 mo 16 0 ++ [Value.int .i64 de, .string rs]))).toArray, .agg (arrI .u8 a 16 0).toArray, .int .i64 now, .int .i64 sn, .string rn] : List Value).toArray w R :=
 calls_of_exec2' (loops := []) (tails := [(1, 5), (2, 11)]) (joins := []) (boxes := []) (rngs := []) (c := Tryz.f70.body.getD .skip) pur1_ok Tryz.func70 (by kernel_rfl) (by kernel_rfl) h

def VC_approve (b : Nat) (i : Nat -> Int) (s : ByteArray) (a : Nat -> Int) (now : Int) (w : World) (R : Ending -> World -> Prop) : Prop := ∀ (n n_1 n_2 : Nat) (W : World), Loc w.heap.size [Blk.mk n_2 42 [Value.int .i64 0, .int .u8 0, .int .u8 0, .int .u8 0, .int .u8 0, .int .u8 0, .int .u8 0, .int .u8 0, .int .u8 0, .int .u8 0, .int .u8 0, .int .u8 0, .int .u8 0, .int .u8 0, .int .u8 0, .int .u8 0, .int .u8 0, .int .u8 0, .int .u8 0, .int .u8 0, .int .u8 0, .int .u8 0, .int .u8 0, .int .u8 0, .int .u8 0, .int .u8 0, .int .u8 0, .int .u8 0, .int .u8 0, .int .u8 0, .int .u8 0, .int .u8 0, .int .u8 0, .string (ByteArray.mk #[]), .int .i64 0, .bool false, .slice none 0 0, .string (ByteArray.mk #[]), .int .i64 0, .int .i64 0, .int .u8 0, .int .u8 0, .int .u8 0, .int .u8 0, .int .u8 0, .int .u8 0, .int .u8 0, .int .u8 0, .int .u8 0, .int .u8 0, .int .u8 0, .int .u8 0,
 .int .u8 0, .int .u8 0, .int .u8 0, .int .u8 0] 2, Blk.mk n_1 45 (arrI .u8 a 16 0) 2, Blk.mk n 32 (arrI .u8 i 32 0) 2] w W -> CallsS Tryz.prog 48 #[.pointer (some (Addr.mk b 0 none)), .int .i64 now] W fun (e : Ending) (w' : World) => ∃ (x : Int), e = .returned (.int .i64 x) /\ KeptL [n_2, n_1, n] W w' /\ bsp (x != 0) (∀ (W : World), Loc w.heap.size [Blk.mk n_2 42 [Value.int .i64 0, .int .u8 0, .int .u8 0, .int .u8 0, .int .u8 0, .int .u8 0, .int .u8 0, .int .u8 0, .int .u8 0, .int .u8 0, .int .u8 0, .int .u8 0, .int .u8 0, .int .u8 0, .int .u8 0, .int .u8 0, .int .u8 0, .int .u8 0, .int .u8 0, .int .u8 0, .int .u8 0, .int .u8 0, .int .u8 0, .int .u8 0, .int .u8 0, .int .u8 0, .int .u8 0, .int .u8 0, .int .u8 0, .int .u8 0, .int .u8 0, .int .u8 0, .int .u8 0, .string (ByteArray.mk #[]), .int .i64 0, .bool false, .slice none 0 0, .string (ByteArray.mk #[]), .int .i64 0, .int .i64 0,
 .int .u8 0, .int .u8 0, .int .u8 0, .int .u8 0, .int .u8 0, .int .u8 0, .int .u8 0, .int .u8 0, .int .u8 0, .int .u8 0, .int .u8 0, .int .u8 0, .int .u8 0, .int .u8 0, .int .u8 0, .int .u8 0] (wrM 0), Blk.mk n_1 45 (arrI .u8 a 16 0) 0, Blk.mk n 32 (arrI .u8 i 32 0) 0] w' W -> R (.returned (.tuple #[.agg #[.int .i64 0, .int .u8 0, .int .u8 0, .int .u8 0, .int .u8 0, .int .u8 0, .int .u8 0, .int .u8 0, .int .u8 0, .int .u8 0, .int .u8 0, .int .u8 0, .int .u8 0, .int .u8 0, .int .u8 0, .int .u8 0, .int .u8 0, .int .u8 0, .int .u8 0, .int .u8 0, .int .u8 0, .int .u8 0, .int .u8 0, .int .u8 0, .int .u8 0, .int .u8 0, .int .u8 0, .int .u8 0, .int .u8 0, .int .u8 0, .int .u8 0, .int .u8 0, .int .u8 0, .string (ByteArray.mk #[]), .int .i64 0, .bool false, .slice none 0 0, .string (ByteArray.mk #[]), .int .i64 0, .int .i64 0, .int .u8 0, .int .u8 0, .int .u8 0, .int .u8 0,
 .int .u8 0, .int .u8 0, .int .u8 0, .int .u8 0, .int .u8 0, .int .u8 0, .int .u8 0, .int .u8 0, .int .u8 0, .int .u8 0, .int .u8 0, .int .u8 0], .int .i64 x])) W) (CallsS Tryz.prog 50 #[.pointer (some (Addr.mk b 0 none)), .agg (arrI .u8 i 32 0).toArray, .string s, .agg (arrI .u8 a 16 0).toArray, .int .i64 now, .int .i64 1, .string (ByteArray.mk #[])] w' fun (e : Ending) (w'_1 : World) => ∃ (x : Int), e = .returned (.int .i64 x) /\ KeptL [n_2, n_1, n] w' w'_1 /\ bsp (x != 0) (∀ (W : World), Loc w.heap.size [Blk.mk n_2 42 [Value.int .i64 0, .int .u8 0, .int .u8 0, .int .u8 0, .int .u8 0, .int .u8 0, .int .u8 0, .int .u8 0, .int .u8 0, .int .u8 0, .int .u8 0, .int .u8 0, .int .u8 0, .int .u8 0, .int .u8 0, .int .u8 0, .int .u8 0, .int .u8 0, .int .u8 0, .int .u8 0, .int .u8 0, .int .u8 0, .int .u8 0, .int .u8 0, .int .u8 0, .int .u8 0, .int .u8 0, .int .u8 0,
 .int .u8 0, .int .u8 0, .int .u8 0, .int .u8 0, .int .u8 0, .string (ByteArray.mk #[]), .int .i64 0, .bool false, .slice none 0 0, .string (ByteArray.mk #[]), .int .i64 0, .int .i64 0, .int .u8 0, .int .u8 0, .int .u8 0, .int .u8 0, .int .u8 0, .int .u8 0, .int .u8 0, .int .u8 0, .int .u8 0, .int .u8 0, .int .u8 0, .int .u8 0, .int .u8 0, .int .u8 0, .int .u8 0, .int .u8 0] (wrM 0), Blk.mk n_1 45 (arrI .u8 a 16 0) 0, Blk.mk n 32 (arrI .u8 i 32 0) 0] w'_1 W -> R (.returned (.tuple #[.agg #[.int .i64 0, .int .u8 0, .int .u8 0, .int .u8 0, .int .u8 0, .int .u8 0, .int .u8 0, .int .u8 0, .int .u8 0, .int .u8 0, .int .u8 0, .int .u8 0, .int .u8 0, .int .u8 0, .int .u8 0, .int .u8 0, .int .u8 0, .int .u8 0, .int .u8 0, .int .u8 0, .int .u8 0, .int .u8 0, .int .u8 0, .int .u8 0, .int .u8 0, .int .u8 0, .int .u8 0, .int .u8 0, .int .u8 0, .int .u8 0, .int .u8 0, .int .u8 0,
 .int .u8 0, .string (ByteArray.mk #[]), .int .i64 0, .bool false, .slice none 0 0, .string (ByteArray.mk #[]), .int .i64 0, .int .i64 0, .int .u8 0, .int .u8 0, .int .u8 0, .int .u8 0, .int .u8 0, .int .u8 0, .int .u8 0, .int .u8 0, .int .u8 0, .int .u8 0, .int .u8 0, .int .u8 0, .int .u8 0, .int .u8 0, .int .u8 0, .int .u8 0], .int .i64 x])) W) (∀ (W : World), Loc w.heap.size [Blk.mk n_2 42 ([Value.int .i64 2] ++ arrI .u8 i 32 0 ++ [Value.string s, .int .i64 0, .bool false, .slice none 0 0, .string (ByteArray.mk #[]), .int .i64 0, .int .i64 0, .int .u8 0, .int .u8 0, .int .u8 0, .int .u8 0, .int .u8 0, .int .u8 0, .int .u8 0, .int .u8 0, .int .u8 0, .int .u8 0, .int .u8 0, .int .u8 0, .int .u8 0, .int .u8 0, .int .u8 0, .int .u8 0]) (wrM 0), Blk.mk n_1 45 (arrI .u8 a 16 0) 0, Blk.mk n 32 (arrI .u8 i 32 0) 0] w'_1 W -> R (.returned (.tuple #[.agg
 ([Value.int .i64 2] ++ arrI .u8 i 32 0 ++ [Value.string s, .int .i64 0, .bool false, .slice none 0 0, .string (ByteArray.mk #[]), .int .i64 0, .int .i64 0, .int .u8 0, .int .u8 0, .int .u8 0, .int .u8 0, .int .u8 0, .int .u8 0, .int .u8 0, .int .u8 0, .int .u8 0, .int .u8 0, .int .u8 0, .int .u8 0, .int .u8 0, .int .u8 0, .int .u8 0, .int .u8 0]).toArray, .int .i64 0])) W))
theorem vc_approve (b : Nat) (i : Nat -> Int) (s : ByteArray) (a : Nat -> Int) (now : Int) (w : World) (R : Ending -> World -> Prop) (h : VC_approve b i s a now w R) : Calls Tryz.prog 19 ([Value.pointer (some { block := b, off := 0 }), .agg (arrI .u8 i 32 0).toArray, .string s, .agg (arrI .u8 a 16 0).toArray, .int .i64 now] : List Value).toArray w R :=
 calls_of_exec2' (loops := []) (tails := []) (joins := []) (boxes := []) (rngs := []) (c := Tryz.f19.body.getD .skip) pur1_ok Tryz.func19 (by kernel_rfl) (by kernel_rfl) h

end Go.Proofs.YtfacflbmlfbeeaaGreatDoor

/- Chapter 39: the contracts of finish, decide, Approve. The library's variable MaxLen holds a number. -/
namespace Go.Proofs.YtfacflbmlfbeeaaGreatDoor
open Go.RowKit Go.Sort Go.Maps

theorem putL_mid : ∀ (vs a b c : List Value), vs.length = b.length → putL (a ++ (b ++ c)) a.length vs = a ++ (vs ++ c)
  | [], a, b, c, h => by
    have : b = [] := List.eq_nil_of_length_eq_zero h.symm
    subst this; rfl
  | v :: r, a, [], c, h => by simp at h
  | v :: r, a, x :: b, c, h => by
    have ih := putL_mid r (a ++ [v]) b c (by simpa using h)
    simp only [putL]
    have e : (a ++ (x :: b ++ c)).set a.length v = (a ++ [v]) ++ (b ++ c) := by
      rw [List.set_append_right _ _ (Nat.le_refl _), Nat.sub_self]
      simp
    rw [e, show a.length + 1 = (a ++ [v]).length by simp, ih]
    simp
theorem put_mo {w w1 : World} {n : Nat} {x : Sb} {a : Nat → Int} {t : TypeId} (h : w.heap[n]? = some (.cells (sbC x).toArray t (0, 0))) (hp : PutB w n (0 + 36) (arrI .u8 a 16 0) w1) : w1.heap[n]? = some (.cells (sbC { x with mo := a }).toArray t (0, 0)) := by
  have h1 := hp.block h
  have e1 : (sbC x).toArray.toList = (arrI .u8 x.id 32 0 ++ ([.string x.g, .string x.tx, .int .i64 x.r, .int .i64 x.st] : List Value)) ++ (arrI .u8 x.mo 16 0 ++ ([.int .i64 x.de, .string x.rs] : List Value)) := by
    unfold sbC
    simp only [List.append_assoc]
  have e2 := putL_mid (arrI .u8 a 16 0) (arrI .u8 x.id 32 0 ++ ([.string x.g, .string x.tx, .int .i64 x.r, .int .i64 x.st] : List Value)) (arrI .u8 x.mo 16 0) ([.int .i64 x.de, .string x.rs] : List Value) rfl
  rw [e1, show 0 + 36 = (arrI .u8 x.id 32 0 ++ ([.string x.g, .string x.tx, .int .i64 x.r, .int .i64 x.st] : List Value)).length from rfl, e2] at h1
  rw [h1]
  unfold sbC
  simp only [List.append_assoc]
/-- A submission that is decided. -/
def finS39 (x : Sb) (a : Nat → Int) (now st : Int) (rs : ByteArray) : Sb := { x with st := st, mo := a, de := now, rs := rs }
def plainE (x : Sb) : En := ⟨x, false, fun _ => 0, 0⟩
def finQ (q : Qu) (x : Sb) : Qu := { q with es := aset q.es x.ky (plainE x), wt := q.wt - 1 }
set_option maxHeartbeats 2000000 in
set_option maxRecDepth 100000 in
theorem finish_any {w : World} {b mb eb : Nat} {q : Qu} (h : Mq w b mb eb q) (hwt : 1 ≤ q.wt ∧ q.wt ≤ 10000) (x : Sb) (hx : BY x.id) (hg : x.g.size ≤ 1073741824) (a : Nat → Int) (now st : Int) (rs : ByteArray) :
    Calls Tryz.prog 70 #[.pointer (some ⟨b, 0, none⟩), sbV x, .agg (arrI .u8 a 16 0).toArray, .int .i64 now, .int .i64 st, .string rs] w fun e w' => e = .returned (sbV (finS39 x a now st rs)) ∧ Mq w' b mb eb (finQ q (finS39 x a now st rs)) ∧ Kp (QB b mb eb) w w' := by
  refine vc_finish b x.id x.mo x.g x.tx x.r x.st x.de x.rs a now st rs w _ (fun n n1 n2 W hW => ?_)
  have kW : K0 w W := hW.kk rfl
  have c0 := hW.cells 0 rfl
  have c1 := hW.cells 1 rfl
  have c2 := hW.cells 2 rfl
  have g2 : w.heap.size ≤ n := hW.fresh 2 rfl rfl
  have a12 := hW.apart 1 2 rfl rfl (by decide)
  have a02 := hW.apart 0 2 rfl rfl (by decide)
  simp only at a12 a02
  refine ⟨fun wx => Kp (· = n) W wx, .refl _ _, a, fun wx k => AtL_block (k.blk c1 (fun e => a12 e)) rfl, ⟨⟨_, cell_at c2 rfl⟩, frozen_block c2 _⟩, fun w1 p1 => ⟨p1.kp, ?_⟩⟩
  have d1 : w1.heap[n]? = some (.cells (sbC { x with st := st }).toArray 48 (0, 0)) := p1.block c2
  refine ⟨WrL_block d1 (by show 0 + 36 + 16 ≤ 54; omega), fun w2 p2 => ?_⟩
  have d2 : w2.heap[n]? = some (.cells (sbC { x with st := st, mo := a }).toArray 48 (0, 0)) := put_mo d1 p2
  refine ⟨⟨⟨_, cell_at d2 rfl⟩, frozen_block d2 _⟩, fun w3 p3 => ?_⟩
  have d3 : w3.heap[n]? = some (.cells (sbC { x with st := st, mo := a, de := now }).toArray 48 (0, 0)) := p3.block d2
  refine ⟨⟨⟨_, cell_at d3 rfl⟩, frozen_block d3 _⟩, fun w4 p4 => ?_⟩
  have d4 : w4.heap[n]? = some (.cells (sbC (finS39 x a now st rs)).toArray 48 (0, 0)) := p4.block d3
  have k4 : Kp (· = n) W w4 := ((p1.kp.trans p2.kp).trans p3.kp).trans p4.kp
  have k04 : K0 w w4 := kW.fresh k4 (fun i hi e => by omega)
  have h4 := h.k0 k04
  have b0 := k4.blk c0 a02
  have b1 := k4.blk c1 a12
  generalize hX : finS39 x a now st rs = X at d4 ⊢
  have hXi : X.id = x.id := by rw [← hX]; rfl
  have hXg : X.g = x.g := by rw [← hX]; rfl
  refine ⟨.of_kp k4 (fun z hz => ?_), some eb, fun W5 hW5 => (h4.k0 (hW5.kk rfl)).cE, X.id, fun W5 hW5 => AtL_block ((hW5.kk rfl : K0 w4 W5).blk d4 (fun h => h)) rfl, X.g, fun W5 hW5 => cell_at ((hW5.kk rfl : K0 w4 W5).blk d4 (fun h => h)) rfl, X.id, X.g, X.tx, X.r, X.st, X.mo, X.de, X.rs, fun W5 hW5 => AtL_block ((hW5.kk rfl : K0 w4 W5).blk d4 (fun h => h)) rfl, fun W5 hW5 => ?_⟩
  · simp only [List.mem_cons, List.not_mem_nil, or_false] at hz
    rcases hz with rfl | rfl
    · exact a02
    · exact a12
  have k5 : K0 w4 W5 := hW5.kk rfl
  have h5 := h4.k0 k5
  have e0 := hW5.cells 0 rfl
  have e1 := hW5.cells 1 rfl
  have e4 := k5.blk d4 (fun h => h)
  obtain ⟨w6, hu, h6, k6⟩ := h5.updE (plainE X) (f := X.id) (by rw [hXi]; exact hx) (g := X.g) (by rw [hXg]; exact hg)
  have neE : ∀ {z : Nat} {c : Array Value} {t : TypeId} {f : Nat × Nat}, W5.heap[z]? = some (.cells c t f) → z ≠ eb := fun hz e => by
    obtain ⟨es, k, hb, _⟩ := h5.me.blk
    rw [e, hb] at hz; cases hz
  have f0 := k6.blk e0 (neE e0)
  have f1 := k6.blk e1 (neE e1)
  have f4 := k6.blk e4 (neE e4)
  refine ⟨w6, hu, h5.kept k6 (fun k e => .inr (.inr e)) (fun z hz => ?_), q.wt, h6.cW, h6.wrW, fun w7 p7 => ⟨h6.kept p7.kp (fun k e => .inl e) (fun z hz => ?_), X.id, X.g, X.tx, X.r, X.st, X.mo, X.de, X.rs, ?_, fun W8 hW8 => ⟨rfl, ?_⟩⟩⟩
  · simp only [List.mem_cons, List.not_mem_nil, or_false] at hz
    rcases hz with rfl | rfl
    · exact ⟨_, _, _, e0, rfl⟩
    · exact ⟨_, _, _, e1, rfl⟩
  · simp only [List.mem_cons, List.not_mem_nil, or_false] at hz
    rcases hz with rfl | rfl
    · exact ⟨_, _, _, f0, rfl⟩
    · exact ⟨_, _, _, f1, rfl⟩
  · exact AtL_block (p7.kp.blk f4 (fun e => by have hs := h6.st; have e : n = b := e; rw [e, hs] at f4; simp at f4)) rfl
  · rw [wr64 (by omega) (by omega)] at p7
    have h7 := h6.putW p7
    have k7 : Kp (QB b mb eb) w w7 := ((k04.trans k5).q0.trans (k6.qb (fun k e => .inr (.inr e)))).trans (p7.kp.qb (fun k e => .inl e))
    exact h.loc h7 rfl k7 hW8

/-! ### decide, Approve -/
def decE (q : Qu) (id : Nat → Int) (g : ByteArray) (a : Nat → Int) (now : Int) : Int :=
  if isMB (q.md g) a = false then 20 else if (aget q.es (idI id, g)).isSome = false then 8 else if (q.en (idI id, g)).s.st ≠ 0 then 10 else if blk (q.en (idI id, g)) (auI a) now = true then 25 else 0
def decQ (q : Qu) (id : Nat → Int) (g : ByteArray) (a : Nat → Int) (now st : Int) (rs : ByteArray) : Qu :=
  if decE q id g a now = 0 then finQ q (finS39 (q.en (idI id, g)).s a now st rs) else q
theorem Qu.OK.en {q : Qu} (h : q.OK) {k : Ky} (hs : (aget q.es k).isSome = true) : (q.en k).OK ∧ k = (q.en k).s.ky := by
  unfold Qu.en
  cases hgt : aget q.es k with
  | none => rw [hgt] at hs; cases hs
  | some x =>
    have := h.es k x hgt
    exact ⟨this.1, this.2.1⟩
theorem cnt_pos {l : List (Ky × En)} {P : Ky × En → Bool} {p : Ky × En} (hm : p ∈ l) (hp : P p = true) : 1 ≤ (l.filter P).length := List.length_pos_iff.2 (List.ne_nil_of_mem (List.mem_filter.2 ⟨hm, hp⟩))
set_option maxHeartbeats 2000000 in
set_option maxRecDepth 100000 in
theorem decide_any39 {w : World} {b mb eb : Nat} {q : Qu} (h : Mq w b mb eb q) (ho : q.OK) (hln : q.es.length ≤ 10000) (id : Nat → Int) (hid : BY id) (g : ByteArray) (hg : g.size ≤ 1073741824) (a : Nat → Int) (ha : BY a) (now : Int) (hn : 0 ≤ now ∧ now ≤ 105190559) (st : Int) (rs : ByteArray) :
    Calls Tryz.prog 50 #[.pointer (some ⟨b, 0, none⟩), .agg (arrI .u8 id 32 0).toArray, .string g, .agg (arrI .u8 a 16 0).toArray, .int .i64 now, .int .i64 st, .string rs] w fun e w' => e = .returned (.int .i64 (decE q id g a now)) ∧ Mq w' b mb eb (decQ q id g a now st rs) ∧ Kp (QB b mb eb) w w' := by
  refine vc_decide b id g a now st rs w _ (fun n n1 W hW => ?_)
  have kW : K0 w W := hW.kk rfl
  have c0 := hW.cells 0 rfl
  have c1 := hW.cells 1 rfl
  unfold decQ decE
  refine ⟨(ismod_any (h.k0 kW) ho g hg a ha).mono fun e w1 ⟨he, k1⟩ => ⟨_, he, .of_k0 k1, bsp_intro (fun h1 => ?_) (fun h1 W2 hW2 => ?_)⟩⟩
  · have h1 : isMB (q.md g) a = false := by simpa using h1
    rw [if_pos h1, if_neg (by decide)]
    exact ⟨rfl, h.k0 (kW.trans k1), (kW.trans k1).q0⟩
  have h1 : isMB (q.md g) a = true := by simpa using h1
  rw [h1, if_neg (by decide)]
  have k2 : K0 w W2 := hW2.k0 (kW.trans k1)
  have h2 := h.k0 k2
  have d0 := hW2.cells 0 rfl
  have d1 := hW2.cells 1 rfl
  have heq : q.en (idI id, g) = q.en (idI id, g) := rfl
  generalize hX : q.en (idI id, g) = X at heq
  refine ⟨fun wx => K0 W2 wx, .refl _ _, some eb, fun wx k => (h2.k0 k).cE, id, fun wx k => AtL_block (k.blk d1 (fun h => h)) rfl, X.s.id, X.s.g, X.s.tx, X.s.r, X.s.st, X.s.mo, X.s.de, X.s.rs, X.le, X.ho, X.si, (aget q.es (idI id, g)).isSome, fun wx k => by have := (h2.k0 k).lookE hid hg; rw [hX] at this; exact this, fun n4 w4 hn4 => ⟨hn4.kp _, WrL_block hn4.block (by show 0 + 72 ≤ 72; omega), fun w5 p5 => ?_⟩⟩
  have k5 : K0 W2 w5 := put_k0 (hn4.kp _) p5 hn4.ge
  have b4 : w5.heap[n4]? = some (.cells (enC X).toArray 107 (0, 0)) := p5.full hn4.block rfl
  have k05 := k2.trans k5
  have h5 := h.k0 k05
  have e0 := k5.blk d0 (fun h => h)
  have e1 := k5.blk d1 (fun h => h)
  refine ⟨.of_k0 k5, bsp_intro (fun h3 => ?_) (fun h3 => ⟨X.s.st, cell_at b4 rfl, bsp_intro (fun h4 => ?_) (fun h4 => ?_)⟩)⟩
  · have h3 : (aget q.es (idI id, g)).isSome = false := by simpa using h3
    rw [if_pos h3, if_neg (by decide)]
    exact ⟨rfl, h5, k05.q0⟩
  · have h3 : (aget q.es (idI id, g)).isSome = true := by simpa using h3
    have h4 : X.s.st ≠ 0 := by simpa using h4
    rw [if_neg (by rw [h3]; decide), if_pos h4, if_neg (by decide)]
    exact ⟨rfl, h5, k05.q0⟩
  have h3 : (aget q.es (idI id, g)).isSome = true := by simpa using h3
  have h4 : X.s.st = 0 := by simpa using h4
  rw [if_neg (by rw [h3]; decide), if_neg (by omega)]
  obtain ⟨hxo, hxk⟩ := ho.en h3
  rw [hX] at hxo hxk
  refine ⟨X.s.id, X.s.g, X.s.tx, X.s.r, X.s.st, X.s.mo, X.s.de, X.s.rs, X.le, X.ho, X.si, AtL_block b4 rfl, ?_⟩
  refine ⟨(blocked_any X a now hxo ha hn w5).mono fun e w6 ⟨he, k6⟩ => ⟨_, he, .of_k0 k6, bsp_intro (fun h6 => ?_) (fun h6 => ?_)⟩⟩
  · rw [if_pos h6, if_neg (by decide)]
    exact ⟨rfl, h5.k0 k6, (k05.trans k6).q0⟩
  rw [if_neg (by rw [h6]; decide), if_pos rfl]
  have b6 := k6.blk b4 (fun h => h)
  have k06 := k05.trans k6
  have hm : ((idI id, g), X) ∈ q.es := by
    have h7 : aget q.es (idI id, g) = some X := by
      cases hgt : aget q.es (idI id, g) with
      | none => rw [hgt] at h3; cases h3
      | some y =>
        have : q.en (idI id, g) = y := by unfold Qu.en; rw [hgt]; rfl
        rw [← hX, this]
    exact aget_mem h7
  have hpos : 1 ≤ (q.es.filter fun p => p.2.s.st == 0).length := cnt_pos hm (by simp [h4])
  have hle : (q.es.filter fun p => p.2.s.st == 0).length ≤ q.es.length := List.length_filter_le _ _
  have hwt := ho.wt
  refine ⟨X.s.id, X.s.g, X.s.tx, X.s.r, X.s.st, X.s.mo, X.s.de, X.s.rs, AtL_block b6 rfl, ?_⟩
  refine ⟨(finish_any (h.k0 k06) (by omega) X.s hxo.s.id hxo.s.g a now st rs).mono fun e w7 ⟨he, h7, k7⟩ => ?_⟩
  generalize hY : finS39 X.s a now st rs = Y at he h7 ⊢
  refine ⟨Y.id, Y.g, Y.tx, Y.r, Y.st, Y.mo, Y.de, Y.rs, he, (h.k0 k06).kept k7 (fun k e => e) (fun z hz => ?_), rfl, h7, k06.q0.trans k7⟩
  simp only [List.mem_cons, List.not_mem_nil, or_false] at hz
  rcases hz with rfl | rfl
  · exact ⟨_, _, _, k6.blk e0 (fun h => h), rfl⟩
  · exact ⟨_, _, _, k6.blk e1 (fun h => h), rfl⟩

end Go.Proofs.YtfacflbmlfbeeaaGreatDoor

/- Chapter 39: queues stay as they should be; the contract of Approve. The library's variable MaxLen holds a number. -/
namespace Go.Proofs.YtfacflbmlfbeeaaGreatDoor
open Go.RowKit Go.Sort Go.Maps

theorem cnt_set {β : Type} {P : Ky × β → Bool} {k : Ky} {u v : β} : ∀ l : List (Ky × β), aget l k = some u → ((aset l k v).filter P).length + (if P (k, u) = true then 1 else 0) = (l.filter P).length + (if P (k, v) = true then 1 else 0)
  | [], h => by simp [aget] at h
  | (b, w) :: r, h => by
    unfold aget at h
    unfold aset
    by_cases hb : b = k
    · rw [if_pos hb] at h
      cases h
      subst hb
      rw [if_pos rfl]
      simp only [List.filter_cons]
      split <;> split <;> simp <;> omega
    · rw [if_neg hb] at h
      have ih := cnt_set (P := P) (v := v) r h
      rw [if_neg hb]
      cases hP : P (b, w) with
      | true => rw [List.filter_cons_of_pos hP, List.filter_cons_of_pos hP, List.length_cons, List.length_cons]; omega
      | false => rw [List.filter_cons_of_neg (by rw [hP]; decide), List.filter_cons_of_neg (by rw [hP]; decide)]; exact ih
theorem Qu.OK.setR {q q' : Qu} (h : q.OK) {g : ByteArray} {l : List (Nat → Int)} (hl : ∀ m ∈ l, BY m ∧ NZ 16 m) (hR : setR q g l q') : q'.OK := by
  rcases hR with ⟨_, rfl⟩ | ⟨_, _, rfl⟩ | ⟨hE, hne, x, hp, _, hc, rfl⟩
  · exact h
  · refine ⟨h.room, h.days, h.wt, fun g' y hy => ?_, h.es⟩
    have hy : aget (adel q.ms g) g' = some y := hy
    rw [aget_adel] at hy
    split at hy
    · cases hy
    · exact h.ms g' y hy
  · have h0 : gnE g = 0 ∧ ¬ 8 < l.length := by
      unfold setE at hE
      split at hE
      · contradiction
      · rename_i h1
        split at hE
        · cases hE
        · rename_i h2
          exact ⟨by simpa using h1, h2⟩
    refine ⟨h.room, h.days, h.wt, fun g' y hy => ?_, h.es⟩
    have hy : aget (aset q.ms g x) g' = some y := hy
    rw [aget_aset] at hy
    split at hy
    · rename_i e
      cases hy
      subst e
      refine ⟨h0.1, ⟨fun m hm => hl m (hp.subset hm), by rw [hp.length_eq]; omega, hc⟩, fun e => hne ?_⟩
      rw [e] at hp
      exact List.nil_perm.1 hp
    · exact h.ms g' y hy
theorem i64s {x : Int} (h : 0 ≤ x ∧ x ≤ 105190559) : I64 x := ⟨by omega, by omega⟩
theorem by0 : BY fun _ => 0 := fun _ => ⟨Int.le_refl 0, by show (0 : Int) ≤ 255; decide⟩
theorem newE_ok {id : Nat → Int} {g tx : ByteArray} {now : Int} (hid : BY id ∧ NZ 32 id) (hg : g.size ≤ 80) (ht : tx.size ≤ 65536) (hn : 0 ≤ now ∧ now ≤ 105190559) : (newE id g tx now).OK :=
  ⟨⟨hid.1, hid.2, by0, fun _ _ => rfl, by show g.size ≤ _; omega, by show tx.size ≤ _; omega, by show (⟨#[]⟩ : ByteArray).size ≤ _; decide, i64s hn, ⟨by show _ ≤ (0 : Int); decide, by show (0 : Int) ≤ _; decide⟩, ⟨by show _ ≤ (0 : Int); decide, by show (0 : Int) ≤ _; decide⟩⟩, by0, fun _ _ => rfl, ⟨by show (0 : Int) ≤ 0; decide, by show (0 : Int) ≤ _; decide⟩⟩
theorem Qu.OK.sub {q : Qu} (h : q.OK) {id : Nat → Int} {g tx : ByteArray} {now : Int} (hid : BY id ∧ NZ 32 id) : (subQ q id g tx now).OK := by
  unfold subQ
  split
  · rename_i h0
    unfold subE at h0
    split at h0
    · cases h0
    rename_i h1
    split at h0
    · contradiction
    rename_i h2
    split at h0
    · cases h0
    rename_i h3
    split at h0
    · cases h0
    split at h0
    · cases h0
    rename_i h5
    split at h0
    · cases h0
    have hn := minB_iff.1 (show minB now = true by simpa using h1)
    have h2 : gnE g = 0 := by simpa using h2
    have hg := gnE_sz39 h2
    have hnone : aget q.es (idI id, g) = none := by
      cases hgt : aget q.es (idI id, g) with
      | none => rfl
      | some y => rw [hgt] at h5; exact absurd rfl h5
    have hnew : aset q.es (idI id, g) (newE id g tx now) = q.es ++ [((idI id, g), newE id g tx now)] := aset_new (aget_none.1 hnone)
    refine ⟨h.room, h.days, ?_, h.ms, fun k x hx => ?_⟩
    · show q.wt + 1 = (((aset q.es (idI id, g) (newE id g tx now)).filter _).length : Nat)
      rw [hnew, List.filter_append, List.length_append]
      have := h.wt
      have e : ([((idI id, g), newE id g tx now)].filter fun p : Ky × En => p.2.s.st == 0).length = 1 := rfl
      rw [e]
      omega
    · have hx : aget (aset q.es (idI id, g) (newE id g tx now)) k = some x := hx
      rw [aget_aset] at hx
      split at hx
      · rename_i e
        cases hx
        exact ⟨newE_ok hid hg (by omega) hn, e.symm, h2, by show tx.size ≤ _; omega, by show (⟨#[]⟩ : ByteArray).size ≤ _; decide, hn, ⟨by show (0 : Int) ≤ 0; decide, by show (0 : Int) ≤ _; decide⟩, ⟨by show (0 : Int) ≤ 0; decide, by show (0 : Int) ≤ _; decide⟩⟩
      · exact h.es k x hx
  · exact h
theorem Qu.OK.put {q : Qu} (h : q.OK) {k : Ky} {u v : En} (hu : aget q.es k = some u) {wt : Int} (hw : wt + (if u.s.st == 0 then 1 else 0) = q.wt + (if v.s.st == 0 then 1 else 0))
    (hv : v.OK ∧ k = v.s.ky ∧ gnE v.s.g = 0 ∧ v.s.tx.size ≤ 65536 ∧ v.s.rs.size ≤ 200 ∧ (0 ≤ v.s.r ∧ v.s.r ≤ 105190559) ∧ (0 ≤ v.s.de ∧ v.s.de ≤ 105190559) ∧ (0 ≤ v.s.st ∧ v.s.st ≤ 3)) : ({ q with es := aset q.es k v, wt := wt } : Qu).OK := by
  refine ⟨h.room, h.days, ?_, h.ms, fun k' x hx => ?_⟩
  · show wt = (((aset q.es k v).filter _).length : Nat)
    have h1 := cnt_set (P := fun p : Ky × En => p.2.s.st == 0) (v := v) q.es hu
    have h2 := h.wt
    simp only at h1
    split at hw <;> split at hw <;> simp_all <;> omega
  · have hx : aget (aset q.es k v) k' = some x := hx
    rw [aget_aset] at hx
    split at hx
    · rename_i e; cases hx; subst e; exact hv
    · exact h.es k' x hx
theorem Qu.OK.clm {q : Qu} (h : q.OK) (hd : q.es.Pairwise fun p q => p.1 ≠ q.1) {P : En → Bool} {x : Sb} (hx : x ∈ selE P q.es) {a : Nat → Int} (ha : BY a ∧ NZ 16 a) {now : Int} (hn : 0 ≤ now ∧ now ≤ 105190559) : ({ q with es := aset q.es x.ky ⟨x, true, a, now⟩ } : Qu).OK := by
  obtain ⟨k, e, hm, _, rfl⟩ := selE_mem hx
  have hg := aget_at hd hm
  obtain ⟨h1, h2, h3⟩ := h.es k e hg
  subst h2
  exact h.put (v := ⟨e.s, true, a, now⟩) hg rfl ⟨⟨h1.s, ha.1, ha.2, hn⟩, rfl, h3⟩
theorem Qu.OK.fin {q : Qu} (h : q.OK) {k : Ky} {u : En} (hu : aget q.es k = some u) (hs : u.s.st = 0) {a : Nat → Int} (ha : BY a ∧ NZ 16 a) {now : Int} (hn : 0 ≤ now ∧ now ≤ 105190559) {st : Int} (hst : 1 ≤ st ∧ st ≤ 3) {rs : ByteArray} (hr : rs.size ≤ 200) : (finQ q (finS39 u.s a now st rs)).OK := by
  obtain ⟨h1, h2, h3, h4, h5, h6, h7, h8⟩ := h.es k u hu
  subst h2
  refine h.put (v := plainE (finS39 u.s a now st rs)) hu ?_ ⟨⟨⟨h1.s.id, h1.s.idz, ha.1, ha.2, h1.s.g, h1.s.tx, by show rs.size ≤ _; omega, h1.s.r, ⟨by show _ ≤ st; omega, by show st ≤ _; omega⟩, i64s hn⟩, by0, fun _ _ => rfl, ⟨by show (0 : Int) ≤ 0; decide, by show (0 : Int) ≤ _; decide⟩⟩, rfl, h3, h4, hr, h6, hn, ⟨by show 0 ≤ st; omega, hst.2⟩⟩
  have e1 : (u.s.st == 0) = true := by simp [hs]
  have e2 : ((plainE (finS39 u.s a now st rs)).s.st == 0) = false := by show (st == 0) = false; simp; omega
  rw [e1, e2]
  simp
theorem Qu.OK.dec {q : Qu} (h : q.OK) {id : Nat → Int} {g : ByteArray} {a : Nat → Int} (ha : BY a ∧ NZ 16 a) {now : Int} (hn : 0 ≤ now ∧ now ≤ 105190559) {st : Int} (hst : 1 ≤ st ∧ st ≤ 3) {rs : ByteArray} (hr : rs.size ≤ 200) : (decQ q id g a now st rs).OK := by
  unfold decQ
  split
  · rename_i h0
    unfold decE at h0
    split at h0
    · cases h0
    split at h0
    · cases h0
    rename_i h2
    split at h0
    · cases h0
    rename_i h3
    cases hgt : aget q.es (idI id, g) with
    | none => rw [hgt] at h2; exact absurd rfl h2
    | some u =>
      have hen : q.en (idI id, g) = u := by unfold Qu.en; rw [hgt]; rfl
      rw [hen] at h3 ⊢
      exact h.fin hgt (by simpa using h3) ha hn hst hr
  · exact h

/-! ### Approve -/
def apC (k : Int) (f : Nat → Int) (g : ByteArray) : List Value := ([.int .i64 k] : List Value) ++ (arrI .u8 f 32 0 ++ (([.string g, .int .i64 0, .bool false, .slice none 0 0, .string ⟨#[]⟩, .int .i64 0, .int .i64 0] : List Value) ++ arrI .u8 (fun _ => 0) 16 0))
def apE (q : Qu) (id : Nat → Int) (g : ByteArray) (a : Nat → Int) (now : Int) : Int := if minB now = false then 2 else decE q id g a now
def apQ (q : Qu) (id : Nat → Int) (g : ByteArray) (a : Nat → Int) (now st : Int) (rs : ByteArray) : Qu := if minB now = false then q else decQ q id g a now st rs
def cmdL (e : Int) (id : Nat → Int) (g : ByteArray) : List Value := if e = 0 then apC 2 id g else apC 0 (fun _ => 0) ⟨#[]⟩
set_option maxRecDepth 100000 in
theorem approve_any {w : World} {b mb eb : Nat} {q : Qu} (h : Mq w b mb eb q) (ho : q.OK) (hln : q.es.length ≤ 10000) (id : Nat → Int) (hid : BY id) (g : ByteArray) (hg : g.size ≤ 1073741824) (a : Nat → Int) (ha : BY a) (now : Int) :
    Calls Tryz.prog 19 #[.pointer (some ⟨b, 0, none⟩), .agg (arrI .u8 id 32 0).toArray, .string g, .agg (arrI .u8 a 16 0).toArray, .int .i64 now] w fun e w' => e = .returned (.tuple #[.agg (cmdL (apE q id g a now) id g).toArray, .int .i64 (apE q id g a now)]) ∧ Mq w' b mb eb (apQ q id g a now 1 ⟨#[]⟩) ∧ Kp (QB b mb eb) w w' := by
  refine vc_approve b id g a now w _ (fun n n1 n2 W hW => ?_)
  have kW : K0 w W := hW.kk rfl
  have c0 := hW.cells 0 rfl
  have c1 := hW.cells 1 rfl
  have c2 := hW.cells 2 rfl
  refine ⟨(begin_any b now W).mono fun e w1 ⟨he, k1⟩ => ⟨_, he, .of_k0 k1, bsp_intro (fun h1 W2 hW2 => ?_) (fun h1 => ?_)⟩⟩
  · have h1 : minB now = false := by
      cases hm : minB now with
      | false => rfl
      | true => rw [hm] at h1; simp at h1
    have hE : apE q id g a now = 2 := by unfold apE; rw [h1, if_pos rfl]
    have hQ : apQ q id g a now 1 ⟨#[]⟩ = q := by unfold apQ; rw [h1, if_pos rfl]
    have hC : cmdL 2 id g = apC 0 (fun _ => 0) ⟨#[]⟩ := by unfold cmdL; rw [if_neg (by decide)]
    rw [hE, hQ, hC, h1]
    have k2 : K0 w W2 := hW2.k0 (kW.trans k1)
    exact ⟨rfl, h.k0 k2, k2.q0⟩
  have h1 : minB now = true := by
    cases hm : minB now with
    | true => rfl
    | false => rw [hm] at h1; simp at h1
  have hE : apE q id g a now = decE q id g a now := by unfold apE; rw [h1, if_neg (by decide)]
  have hQ : apQ q id g a now 1 ⟨#[]⟩ = decQ q id g a now 1 ⟨#[]⟩ := by unfold apQ; rw [h1, if_neg (by decide)]
  rw [hE, hQ]
  have k01 := kW.trans k1
  refine ⟨(decide_any39 (h.k0 k01) ho hln id hid g hg a ha now (minB_iff.1 h1) 1 ⟨#[]⟩).mono fun e w2 ⟨he, h2, k2⟩ => ⟨_, he, (h.k0 k01).kept k2 (fun k e => e) (fun z hz => ?_), bsp_intro (fun h3 W3 hW3 => ?_) (fun h3 W3 hW3 => ?_)⟩⟩
  · simp only [List.mem_cons, List.not_mem_nil, or_false] at hz
    rcases hz with rfl | rfl | rfl
    · exact ⟨_, _, _, k1.blk c0 (fun h => h), rfl⟩
    · exact ⟨_, _, _, k1.blk c1 (fun h => h), rfl⟩
    · exact ⟨_, _, _, k1.blk c2 (fun h => h), rfl⟩
  · have h3 : decE q id g a now ≠ 0 := by simpa using h3
    have hC : cmdL (decE q id g a now) id g = apC 0 (fun _ => 0) ⟨#[]⟩ := by unfold cmdL; rw [if_neg h3]
    rw [hC]
    have hq : decQ q id g a now 1 ⟨#[]⟩ = q := by unfold decQ; rw [if_neg h3]
    rw [hq] at h2 ⊢
    exact ⟨rfl, h.loc h2 rfl (k01.q0.trans k2) hW3⟩
  · have h3 : decE q id g a now = 0 := by simpa using h3
    rw [h3]
    refine ⟨rfl, h.loc h2 ?_ (k01.q0.trans k2) hW3⟩
    unfold decQ
    split <;> rfl

end Go.Proofs.YtfacflbmlfbeeaaGreatDoor

/- Chapter 39, plain: texts in UTF-8: what code point stands first; a text's code points. No program in sight. -/
namespace Go.Proofs.YtfacflbmlfbeeaaGreatDoor
open Go.RowKit

/-- The number of bytes of an encoding that begins with c. -/
def lenU (c : Int) : Nat := if 240 ≤ c ∧ c ≤ 244 then 4 else if 224 ≤ c ∧ c ≤ 239 then 3 else if 194 ≤ c ∧ c ≤ 223 then 2 else if c ≤ 127 then 1 else 0
def conU (f : Int) (i : Nat) (c : Int) : Bool :=
  if i = 1 then (if f = 224 then decide (160 ≤ c) && decide (c ≤ 191) else if f = 237 then decide (128 ≤ c) && decide (c ≤ 159) else if f = 240 then decide (144 ≤ c) && decide (c ≤ 191) else if f = 244 then decide (128 ≤ c) && decide (c ≤ 143) else decide (128 ≤ c) && decide (c ≤ 191))
  else decide (128 ≤ c) && decide (c ≤ 191)
/-- Whether an encoding stands first. -/
def okU (s : ByteArray) : Prop := lenU (at8 s 0) ≠ 0 ∧ lenU (at8 s 0) ≤ s.size ∧ ∀ i, 1 ≤ i → i < lenU (at8 s 0) → conU (at8 s 0) i (at8 s i) = true
/-- The value of the first k bytes, of an encoding of n bytes. -/
def v0U (n : Nat) (c : Int) : Int := if n = 1 then c else if n = 2 then c - 192 else if n = 3 then c - 224 else c - 240
def valU (s : ByteArray) (n : Nat) : Nat → Int
  | 0 => 0
  | 1 => v0U n (at8 s 0)
  | k + 2 => 64 * valU s n (k + 1) + at8 s (k + 1) - 128
noncomputable def u8R (s : ByteArray) : Option (Int × Nat) := open Classical in if okU s then some (valU s (lenU (at8 s 0)) (lenU (at8 s 0)), lenU (at8 s 0)) else none
theorem lenU_le (c : Int) : lenU c ≤ 4 := by unfold lenU; (repeat' split) <;> omega
theorem u8R_pos {s : ByteArray} {r : Int} {n : Nat} (h : u8R s = some (r, n)) : 1 ≤ n ∧ n ≤ s.size := by
  unfold u8R at h
  split at h
  · rename_i hk
    cases h
    have := hk.1
    exact ⟨by omega, hk.2.1⟩
  · cases h
theorem conU_bd {f : Int} {i : Nat} {c : Int} (h : conU f i c = true) : 128 ≤ c ∧ c ≤ 191 := by
  unfold conU at h
  repeat' split at h
  all_goals
    simp only [Bool.and_eq_true, decide_eq_true_eq] at h
    omega
theorem conU_val {s : ByteArray} (h : okU s) : ∀ i, 1 ≤ i → i < lenU (at8 s 0) → 128 ≤ at8 s i ∧ at8 s i ≤ 191 := fun i h1 h2 => conU_bd (h.2.2 i h1 h2)

/-! ### The reference's test -/
def leadN (c : Int) : Nat := if c < 128 then 1 else if 192 ≤ c ∧ c < 224 then 2 else if 224 ≤ c ∧ c < 240 then 3 else if 240 ≤ c ∧ c < 248 then 4 else 0
def leastU (n : Nat) : Int := if n = 2 then 128 else if n = 3 then 2048 else if n = 4 then 65536 else 0
def mostU (n : Nat) : Int := if n = 1 then 127 else if n = 2 then 2047 else if n = 3 then 65535 else if n = 4 then 1114111 else 0
def loU (v : Int) : Nat → Int
  | 0 => v
  | k + 1 => loU (64 * v) k
def hiU (v : Int) : Nat → Int
  | 0 => v
  | k + 1 => hiU (64 * v + 63) k
def contS (s : ByteArray) : Prop := ∀ i, 1 ≤ i → i < s.size → 128 ≤ at8 s i ∧ at8 s i ≤ 191
def badU (n : Nat) (lo hi : Int) : Bool := (decide ((if leastU n > lo then leastU n else lo) ≥ 55296) && decide ((if mostU n < hi then mostU n else hi) ≤ 57343)) || decide ((if leastU n > lo then leastU n else lo) > if mostU n < hi then mostU n else hi)
def begP (s : ByteArray) : Prop := leadN (at8 s 0) ≠ 0 ∧ s.size ≤ leadN (at8 s 0) ∧ contS s ∧ badU (leadN (at8 s 0)) (loU (valU s (leadN (at8 s 0)) s.size) (leadN (at8 s 0) - s.size)) (hiU (valU s (leadN (at8 s 0)) s.size) (leadN (at8 s 0) - s.size)) = false
theorem beg_key : ∀ c : Fin 256, (leadN (c.val : Int) ≠ 0 ∧ badU (leadN (c.val : Int)) (loU (v0U (leadN (c.val : Int)) (c.val : Int)) (leadN (c.val : Int) - 1)) (hiU (v0U (leadN (c.val : Int)) (c.val : Int)) (leadN (c.val : Int) - 1)) = false) ↔ lenU (c.val : Int) ≠ 0 := by decide +kernel
/-- One byte: some encoding begins with it just if its length is not zero. -/
theorem beg_one {s : ByteArray} (hs : s.size = 1) : begP s ↔ lenU (at8 s 0) ≠ 0 := by
  have hb := at8_bd s 0
  have hv : valU s (leadN (at8 s 0)) s.size = v0U (leadN (at8 s 0)) (at8 s 0) := by rw [hs]; rfl
  have hc : contS s := fun i h1 h2 => by omega
  unfold begP
  rw [hv, hs]
  generalize at8 s 0 = c at hb
  have key := beg_key ⟨c.toNat, by omega⟩
  have e : ((c.toNat : Nat) : Int) = c := by omega
  simp only [e] at key
  constructor
  · rintro ⟨a1, _, _, a4⟩
    exact key.1 ⟨a1, a4⟩
  · intro h
    obtain ⟨a1, a4⟩ := key.2 h
    exact ⟨a1, by omega, hc, a4⟩
theorem lead_key : ∀ c : Fin 256, lenU (c.val : Int) ≠ 0 → leadN (c.val : Int) = lenU (c.val : Int) := by decide +kernel
theorem lead_len {c : Int} (hc : 0 ≤ c ∧ c ≤ 255) (h : lenU c ≠ 0) : leadN c = lenU c := by
  have key := lead_key ⟨c.toNat, by omega⟩
  have e : ((c.toNat : Nat) : Int) = c := by omega
  simp only [e] at key
  exact key h
theorem lenU_key : ∀ c : Fin 256, lenU (c.val : Int) ≠ 0 → (lenU (c.val : Int) = 1 ∧ (c.val : Int) ≤ 127) ∨ (lenU (c.val : Int) = 2 ∧ 194 ≤ (c.val : Int) ∧ (c.val : Int) ≤ 223) ∨ (lenU (c.val : Int) = 3 ∧ 224 ≤ (c.val : Int) ∧ (c.val : Int) ≤ 239) ∨ (lenU (c.val : Int) = 4 ∧ 240 ≤ (c.val : Int) ∧ (c.val : Int) ≤ 244) := by decide +kernel
theorem lenU_cases {c : Int} (hc : 0 ≤ c ∧ c ≤ 255) (h : lenU c ≠ 0) : (lenU c = 1 ∧ c ≤ 127) ∨ (lenU c = 2 ∧ 194 ≤ c ∧ c ≤ 223) ∨ (lenU c = 3 ∧ 224 ≤ c ∧ c ≤ 239) ∨ (lenU c = 4 ∧ 240 ≤ c ∧ c ≤ 244) := by
  have key := lenU_key ⟨c.toNat, by omega⟩
  have e : ((c.toNat : Nat) : Int) = c := by omega
  simp only [e] at key
  exact key h
theorem badU_eq {n : Nat} {v : Int} : badU n v v = false ↔ ¬ ((55296 ≤ (if leastU n > v then leastU n else v) ∧ (if mostU n < v then mostU n else v) ≤ 57343) ∨ (if leastU n > v then leastU n else v) > (if mostU n < v then mostU n else v)) := by
  unfold badU
  simp
/-- All bytes of an encoding. -/
theorem beg_full {s : ByteArray} (h0 : lenU (at8 s 0) ≠ 0) (hs : s.size = lenU (at8 s 0)) : begP s ↔ okU s := by
  have hb := at8_bd s 0
  have b1 := at8_bd s 1
  have b2 := at8_bd s 2
  have b3 := at8_bd s 3
  have hl := lead_len hb h0
  unfold begP okU
  rw [hl, hs, Nat.sub_self]
  show _ ∧ _ ∧ contS s ∧ badU (lenU (at8 s 0)) (valU s (lenU (at8 s 0)) (lenU (at8 s 0))) (valU s (lenU (at8 s 0)) (lenU (at8 s 0))) = false ↔ _
  rw [badU_eq]
  rcases lenU_cases hb h0 with ⟨e, h⟩ | ⟨e, h1, h2⟩ | ⟨e, h1, h2⟩ | ⟨e, h1, h2⟩
  · rw [e] at hs ⊢
    have hv : valU s 1 1 = at8 s 0 := rfl
    rw [hv]
    refine ⟨fun ⟨a1, a2, a3, a4⟩ => ⟨a1, a2, fun i h1 h2 => by omega⟩, fun ⟨a1, a2, a3⟩ => ⟨a1, a2, fun i h1 h2 => by omega, ?_⟩⟩
    simp only [leastU, mostU]
    simp
    (repeat' split) <;> omega
  · rw [e] at hs ⊢
    have hv : valU s 2 2 = 64 * (at8 s 0 - 192) + at8 s 1 - 128 := rfl
    rw [hv]
    have hc : ∀ c, conU (at8 s 0) 1 c = (decide (128 ≤ c) && decide (c ≤ 191)) := fun c => by
      unfold conU
      rw [if_pos rfl, if_neg (by omega), if_neg (by omega), if_neg (by omega), if_neg (by omega)]
    refine ⟨fun ⟨a1, a2, a3, a4⟩ => ⟨a1, a2, fun i h1 h2 => ?_⟩, fun ⟨a1, a2, a3⟩ => ?_⟩
    · obtain rfl : i = 1 := by omega
      have := a3 1 (by omega) (by omega)
      rw [hc]; simp; omega
    · have h3 := conU_bd (a3 1 (by omega) (by omega))
      refine ⟨a1, a2, fun i h1 h2 => ?_, ?_⟩
      · obtain rfl : i = 1 := by omega
        exact h3
      · simp only [leastU, mostU]
        simp
        (repeat' split) <;> omega
  · rw [e] at hs ⊢
    have hv : valU s 3 3 = 64 * (64 * (at8 s 0 - 224) + at8 s 1 - 128) + at8 s 2 - 128 := rfl
    rw [hv]
    have hc2 : ∀ c, conU (at8 s 0) 2 c = (decide (128 ≤ c) && decide (c ≤ 191)) := fun c => by
      unfold conU
      rw [if_neg (by decide)]
    refine ⟨fun ⟨a1, a2, a3, a4⟩ => ⟨a1, a2, fun i h1 h2 => ?_⟩, fun ⟨a1, a2, a3⟩ => ?_⟩
    · have c1 := a3 1 (by omega) (by omega)
      have c2 := a3 2 (by omega) (by omega)
      obtain rfl | rfl : i = 1 ∨ i = 2 := by omega
      · simp only [leastU, mostU] at a4
        simp at a4
        unfold conU
        rw [if_pos rfl]
        by_cases k1 : at8 s 0 = 224
        · rw [if_pos k1]; simp; (repeat' split at a4) <;> omega
        rw [if_neg k1]
        by_cases k2 : at8 s 0 = 237
        · rw [if_pos k2]; simp; (repeat' split at a4) <;> omega
        rw [if_neg k2, if_neg (by omega), if_neg (by omega)]
        simp; omega
      · rw [hc2]; simp; omega
    · have h3 := a3 1 (by omega) (by omega)
      have h4 := conU_bd h3
      have h5 := conU_bd (a3 2 (by omega) (by omega))
      refine ⟨a1, a2, fun i h1 h2 => ?_, ?_⟩
      · obtain rfl | rfl : i = 1 ∨ i = 2 := by omega
        · exact h4
        · exact h5
      · unfold conU at h3
        rw [if_pos rfl] at h3
        simp only [leastU, mostU]
        simp
        (repeat' split at h3) <;> simp at h3 <;> (repeat' split) <;> omega
  · rw [e] at hs ⊢
    have hv : valU s 4 4 = 64 * (64 * (64 * (at8 s 0 - 240) + at8 s 1 - 128) + at8 s 2 - 128) + at8 s 3 - 128 := rfl
    rw [hv]
    have hc2 : ∀ i c, 2 ≤ i → conU (at8 s 0) i c = (decide (128 ≤ c) && decide (c ≤ 191)) := fun i c hi => by
      unfold conU
      rw [if_neg (by omega)]
    refine ⟨fun ⟨a1, a2, a3, a4⟩ => ⟨a1, a2, fun i h1 h2 => ?_⟩, fun ⟨a1, a2, a3⟩ => ?_⟩
    · have c1 := a3 1 (by omega) (by omega)
      have c2 := a3 2 (by omega) (by omega)
      have c3 := a3 3 (by omega) (by omega)
      obtain rfl | hi : i = 1 ∨ 2 ≤ i := by omega
      · simp only [leastU, mostU] at a4
        simp at a4
        unfold conU
        rw [if_pos rfl, if_neg (by omega), if_neg (by omega)]
        by_cases k1 : at8 s 0 = 240
        · rw [if_pos k1]; simp; (repeat' split at a4) <;> omega
        rw [if_neg k1]
        by_cases k2 : at8 s 0 = 244
        · rw [if_pos k2]; simp; (repeat' split at a4) <;> omega
        rw [if_neg k2]
        simp; omega
      · have := a3 i (by omega) (by omega)
        rw [hc2 _ _ hi]; simp; omega
    · have h3 := a3 1 (by omega) (by omega)
      have h4 := conU_bd h3
      have h5 := conU_bd (a3 2 (by omega) (by omega))
      have h6 := conU_bd (a3 3 (by omega) (by omega))
      refine ⟨a1, a2, fun i h1 h2 => conU_bd (a3 i h1 (by omega)), ?_⟩
      unfold conU at h3
      rw [if_pos rfl] at h3
      simp only [leastU, mostU]
      simp
      (repeat' split at h3) <;> simp at h3 <;> (repeat' split) <;> omega

end Go.Proofs.YtfacflbmlfbeeaaGreatDoor

/- The formulas of functions by the symbolic evaluator, and that each gives the call's contract. Written by a program (gen.py). No condition. -/
namespace Go.Proofs.YtfacflbmlfbeeaaGreatDoor
set_option maxRecDepth 100000
set_option linter.unusedVariables false

def VC_ulen (c : Int) (w : World) (R : Ending -> World -> Prop) : Prop := bsp (decide (c ≥ 240) && decide (c <= 244)) (R (.returned (.int .i64 (IntKind.i64.wrap (IntKind.i64.wrap (IntKind.i64.wrap (IntKind.i64.wrap (0 + 1) + 1) + 1) + 1)))) w) (bsp (decide (c ≥ 224) && decide (c <= 239)) (R (.returned (.int .i64 (IntKind.i64.wrap (IntKind.i64.wrap (IntKind.i64.wrap (0 + 1) + 1) + 1)))) w) (bsp (decide (c ≥ 194) && decide (c <= 223)) (R (.returned (.int .i64 (IntKind.i64.wrap (IntKind.i64.wrap (0 + 1) + 1)))) w) (bsp (decide (c <= 127)) (R (.returned (.int .i64 (IntKind.i64.wrap (0 + 1)))) w) (R (.returned (.int .i64 0)) w))))
theorem vc_ulen (c : Int) (w : World) (R : Ending -> World -> Prop) (h : VC_ulen c w R) : Calls Tryz.prog 157 ([Value.int .u8 c] : List Value).toArray w R :=
 calls_of_exec2' (loops := []) (tails := []) (joins := []) (boxes := []) (rngs := []) (c := Tryz.f157.body.getD .skip) pur1_ok Tryz.func157 (by kernel_rfl) (by kernel_rfl) h

def VC_ucont (f : Int) (i : Int) (c : Int) (w : World) (R : Ending -> World -> Prop) : Prop := bsp (i == 1) (bsp (f == 224) (R (.returned (.bool (decide (c ≥ 160) && decide (c <= 191)))) w) (bsp (f == 237) (R (.returned (.bool (decide (c ≥ 128) && decide (c <= 159)))) w) (bsp (f == 240) (R (.returned (.bool (decide (c ≥ 144) && decide (c <= 191)))) w) (bsp (f == 244) (R (.returned (.bool (decide (c ≥ 128) && decide (c <= 143)))) w) (R (.returned (.bool (decide (c ≥ 128) && decide (c <= 191)))) w))))) (R (.returned (.bool (decide (c ≥ 128) && decide (c <= 191)))) w)
theorem vc_ucont (f : Int) (i : Int) (c : Int) (w : World) (R : Ending -> World -> Prop) (h : VC_ucont f i c w R) : Calls Tryz.prog 158 ([Value.int .u8 f, .int .i64 i, .int .u8 c] : List Value).toArray w R :=
 calls_of_exec2' (loops := []) (tails := []) (joins := []) (boxes := []) (rngs := []) (c := Tryz.f158.body.getD .skip) pur1_ok Tryz.func158 (by kernel_rfl) (by kernel_rfl) h

def VC_umeas (s : ByteArray) (w : World) (R : Ending -> World -> Prop) : Prop := gimp (!s.toList == []) ((0 : Int) <= 0 /\ 0 < (↑s.size : Int)) /\ bsp (!s.toList == []) (CallsS Tryz.prog 157 #[.int .u8 (at8 s 0)] w fun (e : Ending) (w' : World) => ∃ (x : Int), e = .returned (.int .i64 x) /\ KeptL [] w w' /\ bsp (false || x == 0) (R (.returned (.tuple #[.int .i64 0, .bool false])) w') (((0 : Int) <= 0 /\ 0 < (↑s.size : Int)) /\ CallsS Tryz.prog 157 #[.int .u8 (at8 s 0)] w' fun (e : Ending) (w'_1 : World) => ∃ (x : Int), e = .returned (.int .i64 x) /\ KeptL [] w' w'_1 /\ ∃ (I : List Value -> World -> Prop) (m : List Value -> World -> Nat), I [Value.int .i64 1] w'_1 /\ ∀ (x_1 : Int) (w' : World), I [Value.int .i64 x_1] w' -> gimp (decide (x_1 < x) && decide (x_1 < (↑s.size : Int))) ((0 : Int) <= 0 /\ 0 < (↑s.size : Int)) /\
 gimp (decide (x_1 < x) && decide (x_1 < (↑s.size : Int))) (0 <= x_1 /\ x_1 < (↑s.size : Int)) /\ ∀ (W : World), Loc w.heap.size [] w' W -> bsp (decide (x_1 < x) && decide (x_1 < (↑s.size : Int))) (CallsS Tryz.prog 158 #[.int .u8 (at8 s 0), .int .i64 x_1, .int .u8 (at8 s x_1.toNat)] W fun (e : Ending) (w'_2 : World) => ∃ (x_2 : Bool), e = .returned (.bool x_2) /\ KeptL [] W w'_2 /\ bsp (true && x_2) (I [Value.int .i64 (IntKind.i64.wrap (x_1 + 1))] w'_2 /\ m [Value.int .i64 (IntKind.i64.wrap (x_1 + 1))] w'_2 < m [Value.int .i64 x_1] w') (R (.returned (.tuple #[.int .i64 x_1, .bool (x_1 == x)])) w'_2)) (KeptL [] W W /\ R (.returned (.tuple #[.int .i64 x_1, .bool (x_1 == x)])) W))) (KeptL [] w w /\ R (.returned (.tuple #[.int .i64 0, .bool false])) w)
theorem vc_umeas (s : ByteArray) (w : World) (R : Ending -> World -> Prop) (h : VC_umeas s w R) : Calls Tryz.prog 135 ([Value.string s] : List Value).toArray w R :=
 calls_of_exec2' (loops := [(5, [(2, Ck.int .i64)])]) (tails := [(5, 16)]) (joins := []) (boxes := []) (rngs := []) (c := Tryz.f135.body.getD .skip) pur1_ok Tryz.func135 (by kernel_rfl) (by kernel_rfl) h

def VC_uval (s : ByteArray) (w : World) (R : Ending -> World -> Prop) : Prop := ((0 : Int) <= 0 /\ 0 < (↑s.size : Int)) /\ bsp (decide ((↑s.size : Int) > 1)) (∃ (I : List Value -> World -> Prop) (m : List Value -> World -> Nat), I [Value.int .i64 1, .int .i32 (IntKind.i32.wrap (↑(BitVec.ofInt 32 (IntKind.i32.wrap (at8 s 0)) &&& BitVec.ofInt 32 (Int.fdiv 127 (2 ^ min (↑s.size : Int).toNat 32))).toNat : Int))] w /\ ∀ (x x_1 : Int) (w' : World), I [Value.int .i64 x, .int .i32 x_1] w' -> bsp (decide (x < (↑s.size : Int))) ((0 <= x /\ x < (↑s.size : Int)) /\ I [Value.int .i64 (IntKind.i64.wrap (x + 1)), .int .i32 (IntKind.i32.wrap (↑(BitVec.ofInt 32 (IntKind.i32.wrap (x_1 * 2 ^ 6)) ||| BitVec.ofInt 32 (IntKind.i32.wrap (IntKind.u8.wrap (↑(BitVec.ofInt 8 (at8 s x.toNat) &&& BitVec.ofInt 8 63).toNat : Int)))).toNat : Int))] w' /\ m [Value.int .i64 (IntKind.i64.wrap (x + 1)), .int .i32
 (IntKind.i32.wrap (↑(BitVec.ofInt 32 (IntKind.i32.wrap (x_1 * 2 ^ 6)) ||| BitVec.ofInt 32 (IntKind.i32.wrap (IntKind.u8.wrap (↑(BitVec.ofInt 8 (at8 s x.toNat) &&& BitVec.ofInt 8 63).toNat : Int)))).toNat : Int))] w' < m [Value.int .i64 x, .int .i32 x_1] w') (R (.returned (.int .i32 x_1)) w')) (∃ (I : List Value -> World -> Prop) (m : List Value -> World -> Nat), I [Value.int .i64 1, .int .i32 (IntKind.i32.wrap (at8 s 0))] w /\ ∀ (x x_1 : Int) (w' : World), I [Value.int .i64 x, .int .i32 x_1] w' -> bsp (decide (x < (↑s.size : Int))) ((0 <= x /\ x < (↑s.size : Int)) /\ I [Value.int .i64 (IntKind.i64.wrap (x + 1)), .int .i32 (IntKind.i32.wrap (↑(BitVec.ofInt 32 (IntKind.i32.wrap (x_1 * 2 ^ 6)) ||| BitVec.ofInt 32 (IntKind.i32.wrap (IntKind.u8.wrap (↑(BitVec.ofInt 8 (at8 s x.toNat) &&& BitVec.ofInt 8 63).toNat : Int)))).toNat : Int))] w' /\ m [Value.int .i64 (IntKind.i64.wrap (x + 1)),
 .int .i32 (IntKind.i32.wrap (↑(BitVec.ofInt 32 (IntKind.i32.wrap (x_1 * 2 ^ 6)) ||| BitVec.ofInt 32 (IntKind.i32.wrap (IntKind.u8.wrap (↑(BitVec.ofInt 8 (at8 s x.toNat) &&& BitVec.ofInt 8 63).toNat : Int)))).toNat : Int))] w' < m [Value.int .i64 x, .int .i32 x_1] w') (R (.returned (.int .i32 x_1)) w'))
theorem vc_uval (s : ByteArray) (w : World) (R : Ending -> World -> Prop) (h : VC_uval s w R) : Calls Tryz.prog 136 ([Value.string s] : List Value).toArray w R :=
 calls_of_exec2' (loops := [(5, [(4, Ck.int .i64), (3, Ck.int .i32)])]) (tails := []) (joins := []) (boxes := []) (rngs := []) (c := Tryz.f136.body.getD .skip) pur1_ok Tryz.func136 (by kernel_rfl) (by kernel_rfl) h

def VC_udec (s : ByteArray) (w : World) (R : Ending -> World -> Prop) : Prop := bsp (s.toList == []) (R (.returned (.tuple #[.int .i32 0, .int .i64 0, .int .i64 1])) w) (CallsS Tryz.prog 135 #[.string s] w fun (e : Ending) (w' : World) => ∃ (x : Int) (x_1 : Bool), e = .returned (.tuple #[.int .i64 x, .bool x_1]) /\ KeptL [] w w' /\ bsp x_1 ((0 <= x /\ x <= (↑s.size : Int)) /\ CallsS Tryz.prog 136 #[.string (s.extract 0 x.toNat)] w' fun (e : Ending) (w'_1 : World) => ∃ (x_2 : Int), e = .returned (.int .i32 x_2) /\ KeptL [] w' w'_1 /\ R (.returned (.tuple #[.int .i32 x_2, .int .i64 x, .int .i64 0])) w'_1) (bsp (x == 0) (R (.returned (.tuple #[.int .i32 0, .int .i64 0, .int .i64 6])) w') (bsp (x == (↑s.size : Int)) (R (.returned (.tuple #[.int .i32 0, .int .i64 0, .int .i64 23])) w') (R (.returned (.tuple #[.int .i32 0, .int .i64 0, .int .i64 3])) w'))))
theorem vc_udec (s : ByteArray) (w : World) (R : Ending -> World -> Prop) (h : VC_udec s w R) : Calls Tryz.prog 115 ([Value.string s] : List Value).toArray w R :=
 calls_of_exec2' (loops := []) (tails := []) (joins := []) (boxes := []) (rngs := []) (c := Tryz.f115.body.getD .skip) pur1_ok Tryz.func115 (by kernel_rfl) (by kernel_rfl) h

def VC_ucheck (s : ByteArray) (w : World) (R : Ending -> World -> Prop) : Prop := ∃ (I : List Value -> World -> Prop) (m : List Value -> World -> Nat), I [Value.int .i64 0] w /\ ∀ (x : Int) (w' : World), I [Value.int .i64 x] w' -> bsp (decide (x < (↑s.size : Int))) ((0 <= x /\ x <= (↑s.size : Int)) /\ CallsS Tryz.prog 115 #[.string (s.extract x.toNat s.size)] w' fun (e : Ending) (w'_1 : World) => ∃ (x_1 : Int) (x_2 : Int) (x_3 : Int), e = .returned (.tuple #[.int .i32 x_1, .int .i64 x_2, .int .i64 x_3]) /\ KeptL [] w' w'_1 /\ bsp (x_3 != 0) (R (.returned (.tuple #[.int .i64 x, .int .i64 x_3])) w'_1) (I [Value.int .i64 (IntKind.i64.wrap (x + x_2))] w'_1 /\ m [Value.int .i64 (IntKind.i64.wrap (x + x_2))] w'_1 < m [Value.int .i64 x] w')) (R (.returned (.tuple #[.int .i64 0, .int .i64 0])) w')
theorem vc_ucheck (s : ByteArray) (w : World) (R : Ending -> World -> Prop) (h : VC_ucheck s w R) : Calls Tryz.prog 113 ([Value.string s] : List Value).toArray w R :=
 calls_of_exec2' (loops := [(2, [(4, Ck.int .i64)])]) (tails := []) (joins := []) (boxes := []) (rngs := []) (c := Tryz.f113.body.getD .skip) pur1_ok Tryz.func113 (by kernel_rfl) (by kernel_rfl) h

def VC_uvalid (s : ByteArray) (w : World) (R : Ending -> World -> Prop) : Prop := CallsS Tryz.prog 113 #[.string s] w fun (e : Ending) (w' : World) => ∃ (x : Int) (x_1 : Int), e = .returned (.tuple #[.int .i64 x, .int .i64 x_1]) /\ KeptL [] w w' /\ R (.returned (.bool (x_1 == 0))) w'
theorem vc_uvalid (s : ByteArray) (w : World) (R : Ending -> World -> Prop) (h : VC_uvalid s w R) : Calls Tryz.prog 91 ([Value.string s] : List Value).toArray w R :=
 calls_of_exec2' (loops := []) (tails := []) (joins := []) (boxes := []) (rngs := []) (c := Tryz.f91.body.getD .skip) pur1_ok Tryz.func91 (by kernel_rfl) (by kernel_rfl) h

def VC_uctl (r : Int) (w : World) (R : Ending -> World -> Prop) : Prop := R (.returned (.bool (decide (r <= 31) || decide (r ≥ 127) && decide (r <= 159) || r == 8232 || r == 8233))) w
theorem vc_uctl (r : Int) (w : World) (R : Ending -> World -> Prop) (h : VC_uctl r w R) : Calls Tryz.prog 93 ([Value.int .i32 r] : List Value).toArray w R :=
 calls_of_exec2' (loops := []) (tails := []) (joins := []) (boxes := []) (rngs := []) (c := Tryz.f93.body.getD .skip) pur1_ok Tryz.func93 (by kernel_rfl) (by kernel_rfl) h

def VC_urunes (s : ByteArray) (w : World) (R : Ending -> World -> Prop) : Prop := ∀ (n : Nat) (W : World), Loc w.heap.size [Blk.mk n 9 [Value.string s] 2] w W -> R (.returned (Value.func (Fn.func 114) #[] #[.pointer (some (Addr.mk n 0 none))])) W
theorem vc_urunes (s : ByteArray) (w : World) (R : Ending -> World -> Prop) (h : VC_urunes s w R) : Calls Tryz.prog 92 ([Value.string s] : List Value).toArray w R :=
 calls_of_exec2' (loops := []) (tails := []) (joins := []) (boxes := []) (rngs := []) (c := Tryz.f92.body.getD .skip) pur1_ok Tryz.func92 (by kernel_rfl) (by kernel_rfl) h

def VC_xlead (c : Int) (w : World) (R : Ending -> World -> Prop) : Prop := bsp (decide (c < 128)) (R (.returned (.tuple #[.int .i64 1, .int .i64 (IntKind.i64.wrap c)])) w) (bsp (decide (c ≥ 192) && decide (c < 224)) (R (.returned (.tuple #[.int .i64 2, .int .i64 (IntKind.i64.wrap (IntKind.i64.wrap c - 192))])) w) (bsp (decide (c ≥ 224) && decide (c < 240)) (R (.returned (.tuple #[.int .i64 3, .int .i64 (IntKind.i64.wrap (IntKind.i64.wrap c - 224))])) w) (bsp (decide (c ≥ 240) && decide (c < 248)) (R (.returned (.tuple #[.int .i64 4, .int .i64 (IntKind.i64.wrap (IntKind.i64.wrap c - 240))])) w) (R (.returned (.tuple #[.int .i64 0, .int .i64 0])) w))))
theorem vc_xlead (c : Int) (w : World) (R : Ending -> World -> Prop) (h : VC_xlead c w R) : Calls Tryz.prog 137 ([Value.int .u8 c] : List Value).toArray w R :=
 calls_of_exec2' (loops := []) (tails := []) (joins := []) (boxes := []) (rngs := []) (c := Tryz.f137.body.getD .skip) pur1_ok Tryz.func137 (by kernel_rfl) (by kernel_rfl) h

def VC_xleast (n : Int) (w : World) (R : Ending -> World -> Prop) : Prop := ∀ (n_1 : Nat) (W : World), Loc w.heap.size [Blk.mk n_1 3 [Value.int .i64 0, .int .i64 0, .int .i64 128, .int .i64 2048, .int .i64 65536] 2] w W -> (0 <= n /\ n < (↑5 : Int)) /\ ∃ (x : Int), W.cell? (Addr.mk n_1 (0 + n.toNat) none) = some (.int .i64 x) /\ R (.returned (.int .i64 x)) W
theorem vc_xleast (n : Int) (w : World) (R : Ending -> World -> Prop) (h : VC_xleast n w R) : Calls Tryz.prog 138 ([Value.int .i64 n] : List Value).toArray w R :=
 calls_of_exec2' (loops := []) (tails := []) (joins := []) (boxes := []) (rngs := []) (c := Tryz.f138.body.getD .skip) pur1_ok Tryz.func138 (by kernel_rfl) (by kernel_rfl) h

def VC_xmost (n : Int) (w : World) (R : Ending -> World -> Prop) : Prop := ∀ (n_1 : Nat) (W : World), Loc w.heap.size [Blk.mk n_1 3 [Value.int .i64 0, .int .i64 127, .int .i64 2047, .int .i64 65535, .int .i64 1114111] 2] w W -> (0 <= n /\ n < (↑5 : Int)) /\ ∃ (x : Int), W.cell? (Addr.mk n_1 (0 + n.toNat) none) = some (.int .i64 x) /\ R (.returned (.int .i64 x)) W
theorem vc_xmost (n : Int) (w : World) (R : Ending -> World -> Prop) (h : VC_xmost n w R) : Calls Tryz.prog 139 ([Value.int .i64 n] : List Value).toArray w R :=
 calls_of_exec2' (loops := []) (tails := []) (joins := []) (boxes := []) (rngs := []) (c := Tryz.f139.body.getD .skip) pur1_ok Tryz.func139 (by kernel_rfl) (by kernel_rfl) h

def VC_xbegins (s : ByteArray) (w : World) (R : Ending -> World -> Prop) : Prop := ((0 : Int) <= 0 /\ 0 < (↑s.size : Int)) /\ CallsS Tryz.prog 137 #[.int .u8 (at8 s 0)] w fun (e : Ending) (w' : World) => ∃ (x : Int) (x_1 : Int), e = .returned (.tuple #[.int .i64 x, .int .i64 x_1]) /\ KeptL [] w w' /\ bsp (x == 0 || decide ((↑s.size : Int) > x)) (R (.returned (.tuple #[.bool false, .int .i64 0, .int .i64 0])) w') (∃ (I : List Value -> World -> Prop) (m : List Value -> World -> Nat), I [Value.int .i64 1, .int .i64 x_1] w' /\ ∀ (x_2 x_3 : Int) (w' : World), I [Value.int .i64 x_2, .int .i64 x_3] w' -> bsp (decide (x_2 < (↑s.size : Int))) ((0 <= x_2 /\ x_2 < (↑s.size : Int)) /\ gimp (!decide (at8 s x_2.toNat < 128)) (0 <= x_2 /\ x_2 < (↑s.size : Int)) /\ bsp (decide (at8 s x_2.toNat < 128) || decide (at8 s x_2.toNat > 191))
 (R (.returned (.tuple #[.bool false, .int .i64 0, .int .i64 0])) w') ((0 <= x_2 /\ x_2 < (↑s.size : Int)) /\ I [Value.int .i64 (IntKind.i64.wrap (x_2 + 1)), .int .i64 (IntKind.i64.wrap (IntKind.i64.wrap (IntKind.i64.wrap (64 * x_3) + IntKind.i64.wrap (at8 s x_2.toNat)) - 128))] w' /\ m [Value.int .i64 (IntKind.i64.wrap (x_2 + 1)), .int .i64 (IntKind.i64.wrap (IntKind.i64.wrap (IntKind.i64.wrap (64 * x_3) + IntKind.i64.wrap (at8 s x_2.toNat)) - 128))] w' < m [Value.int .i64 x_2, .int .i64 x_3] w')) (∃ (I : List Value -> World -> Prop) (m : List Value -> World -> Nat), I [Value.int .i64 (↑s.size : Int), .int .i64 x_3, .int .i64 x_3] w' /\ ∀ (x_4 x_5 x_6 : Int) (w' : World), I [Value.int .i64 x_4, .int .i64 x_5, .int .i64 x_6] w' -> bsp (decide (x_4 < x)) (I [Value.int .i64 (IntKind.i64.wrap (x_4 + 1)), .int .i64 (IntKind.i64.wrap (IntKind.i64.wrap (64 * x_5) + 63)),
 .int .i64 (IntKind.i64.wrap (64 * x_6))] w' /\ m [Value.int .i64 (IntKind.i64.wrap (x_4 + 1)), .int .i64 (IntKind.i64.wrap (IntKind.i64.wrap (64 * x_5) + 63)), .int .i64 (IntKind.i64.wrap (64 * x_6))] w' < m [Value.int .i64 x_4, .int .i64 x_5, .int .i64 x_6] w') (CallsS Tryz.prog 138 #[.int .i64 x] w' fun (e : Ending) (w'_1 : World) => ∃ (x_7 : Int), e = .returned (.int .i64 x_7) /\ KeptL [] w' w'_1 /\ CallsS Tryz.prog 139 #[.int .i64 x] w'_1 fun (e : Ending) (w' : World) => ∃ (x_8 : Int), e = .returned (.int .i64 x_8) /\ KeptL [] w'_1 w' /\ bsp (decide ((if x_7 > x_6 then x_7 else x_6) ≥ 55296) && decide ((if x_8 < x_5 then x_8 else x_5) <= 57343) || decide ((if x_7 > x_6 then x_7 else x_6) > if x_8 < x_5 then x_8 else x_5)) (R (.returned (.tuple #[.bool false, .int .i64 0, .int .i64 0])) w') (R (.returned (.tuple #[.bool true, .int .i64 x, .int .i64 x_3])) w'))))
theorem vc_xbegins (s : ByteArray) (w : World) (R : Ending -> World -> Prop) (h : VC_xbegins s w R) : Calls Tryz.prog 116 ([Value.string s] : List Value).toArray w R :=
 calls_of_exec2' (loops := [(5, [(7, Ck.int .i64), (6, Ck.int .i64)]), (12, [(10, Ck.int .i64), (9, Ck.int .i64), (8, Ck.int .i64)])]) (tails := []) (joins := []) (boxes := []) (rngs := []) (c := Tryz.f116.body.getD .skip) pur1_ok Tryz.func116 (by kernel_rfl) (by kernel_rfl) h

def VC_xfirst (s : ByteArray) (w : World) (R : Ending -> World -> Prop) : Prop := ((0 : Int) <= 1 /\ 1 <= (↑s.size : Int)) /\ CallsS Tryz.prog 116 #[.string (s.extract 0 1)] w fun (e : Ending) (w' : World) => ∃ (x : Bool) (x_1 : Int) (x_2 : Int), e = .returned (.tuple #[.bool x, .int .i64 x_1, .int .i64 x_2]) /\ KeptL [] w w' /\ bsp (!x) (R (.returned (.tuple #[.int .i64 0, .int .i64 0, .int .i64 6])) w') (bsp (decide ((↑s.size : Int) ≥ x_1)) ((0 <= x_1 /\ x_1 <= (↑s.size : Int)) /\ CallsS Tryz.prog 116 #[.string (s.extract 0 x_1.toNat)] w' fun (e : Ending) (w'_1 : World) => ∃ (x : Bool) (x_3 : Int) (x_4 : Int), e = .returned (.tuple #[.bool x, .int .i64 x_3, .int .i64 x_4]) /\ KeptL [] w' w'_1 /\ bsp x (R (.returned (.tuple #[.int .i64 x_4, .int .i64 x_1, .int .i64 0])) w'_1) (R (.returned (.tuple #[.int .i64 0, .int .i64 0, .int .i64 3])) w'_1))
 (CallsS Tryz.prog 116 #[.string s] w' fun (e : Ending) (w'_1 : World) => ∃ (x : Bool) (x_3 : Int) (x_4 : Int), e = .returned (.tuple #[.bool x, .int .i64 x_3, .int .i64 x_4]) /\ KeptL [] w' w'_1 /\ bsp x (R (.returned (.tuple #[.int .i64 0, .int .i64 0, .int .i64 23])) w'_1) (R (.returned (.tuple #[.int .i64 0, .int .i64 0, .int .i64 3])) w'_1)))
theorem vc_xfirst (s : ByteArray) (w : World) (R : Ending -> World -> Prop) (h : VC_xfirst s w R) : Calls Tryz.prog 96 ([Value.string s] : List Value).toArray w R :=
 calls_of_exec2' (loops := []) (tails := []) (joins := []) (boxes := []) (rngs := []) (c := Tryz.f96.body.getD .skip) pur1_ok Tryz.func96 (by kernel_rfl) (by kernel_rfl) h

def VC_xall (s : ByteArray) (w : World) (R : Ending -> World -> Prop) : Prop := ∃ (I : List Value -> World -> Prop) (m : List Value -> World -> Nat), I [Value.int .i64 0, .slice none 0 0, .slice none 0 0] w /\ ∀ (x : Int) (p : Option Addr) (n c : Nat) (p_1 : Option Addr) (n_1 c_1 : Nat) (w' : World), I [Value.int .i64 x, .slice p n c, .slice p_1 n_1 c_1] w' -> bsp (decide (x < (↑s.size : Int))) ((0 <= x /\ x <= (↑s.size : Int)) /\ CallsS Tryz.prog 96 #[.string (s.extract x.toNat s.size)] w' fun (e : Ending) (w'_1 : World) => ∃ (x_1 : Int) (x_2 : Int) (x_3 : Int), e = .returned (.tuple #[.int .i64 x_1, .int .i64 x_2, .int .i64 x_3]) /\ KeptL [] w' w'_1 /\ bsp (x_3 != 0) (R (.returned (.tuple #[.slice p_1 n_1 c_1, .slice p n c, .int .i64 x, .int .i64 x_3])) w'_1) (∀ (n_2 : Nat) (W : World), Loc w.heap.size [Blk.mk n_2 3 [Value.int .i64 x_1] 2] w'_1 W -> ∃ (base : Nat),
 ∃ (xs : List Value), W.ownsRow base 3 1 (.slice p_1 n_1 c_1) n_1 xs /\ n_1 + 1 <= 9223372036854775807 /\ (n_1 + 1) * 8 <= 140737488355328 /\ base <= W.heap.size /\ ∀ (p' : Option Addr) (c' : Nat) (w'_2 : World), w'_2.ownsRow base 3 1 (.slice p' (n_1 + 1) c') (n_1 + 1) (xs ++ [Value.int .i64 x_1]) -> W.grownBy w'_2 (Value.slice p_1 n_1 c_1).ownBlock -> AppL W p_1 n_1 c_1 1 p' c' -> KeptL [] W w'_2 /\ ∀ (n_3 : Nat) (W : World), Loc w.heap.size [Blk.mk n_3 3 [Value.int .i64 x] 2] w'_2 W -> ∃ (base : Nat) (xs : List Value), W.ownsRow base 3 1 (.slice p n c) n xs /\ n + 1 <= 9223372036854775807 /\ (n + 1) * 8 <= 140737488355328 /\ base <= W.heap.size /\ ∀ (p'_1 : Option Addr) (c'_1 : Nat) (w'_3 : World), w'_3.ownsRow base 3 1 (.slice p'_1 (n + 1) c'_1) (n + 1) (xs ++ [Value.int .i64 x]) -> W.grownBy w'_3 (Value.slice p n c).ownBlock -> AppL W p n c 1 p'_1 c'_1 -> KeptL [] W w'_3 /\ I
 [Value.int .i64 (IntKind.i64.wrap (x + x_2)), .slice p'_1 (n + 1) c'_1, .slice p' (n_1 + 1) c'] w'_3 /\ m [Value.int .i64 (IntKind.i64.wrap (x + x_2)), .slice p'_1 (n + 1) c'_1, .slice p' (n_1 + 1) c'] w'_3 < m [Value.int .i64 x, .slice p n c, .slice p_1 n_1 c_1] w')) (R (.returned (.tuple #[.slice p_1 n_1 c_1, .slice p n c, .int .i64 0, .int .i64 0])) w')
theorem vc_xall (s : ByteArray) (w : World) (R : Ending -> World -> Prop) (h : VC_xall s w R) : Calls Tryz.prog 58 ([Value.string s] : List Value).toArray w R :=
 calls_of_exec2' (loops := [(3, [(8, Ck.int .i64), (7, Ck.slice), (6, Ck.slice)])]) (tails := []) (joins := []) (boxes := []) (rngs := []) (c := Tryz.f58.body.getD .skip) pur1_ok Tryz.func58 (by kernel_rfl) (by kernel_rfl) h

def VC_xctl (r : Int) (w : World) (R : Ending -> World -> Prop) : Prop := R (.returned (.bool (decide (r < 32) || decide (r ≥ 127) && decide (r <= 159) || r == 8232 || r == 8233))) w
theorem vc_xctl (r : Int) (w : World) (R : Ending -> World -> Prop) (h : VC_xctl r w R) : Calls Tryz.prog 59 ([Value.int .i64 r] : List Value).toArray w R :=
 calls_of_exec2' (loops := []) (tails := []) (joins := []) (boxes := []) (rngs := []) (c := Tryz.f59.body.getD .skip) pur1_ok Tryz.func59 (by kernel_rfl) (by kernel_rfl) h

end Go.Proofs.YtfacflbmlfbeeaaGreatDoor
