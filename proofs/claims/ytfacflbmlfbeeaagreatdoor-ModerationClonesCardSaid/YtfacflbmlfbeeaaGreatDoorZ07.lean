/- The formulas of functions by the symbolic evaluator, and that each gives the call's contract. Written by a program (gen.py). No condition. -/
import Derived.Test.YtfacflbmlfbeeaaGreatDoorProg
import Derived.Test.YtfacflbmlfbeeaaGreatDoorZ02
import Derived.Test.YtfacflbmlfbeeaaGreatDoorZ04
import Derived.Test.YtfacflbmlfbeeaaGreatDoorZ03
import Derived.KernelRfl
import Derived.Test.YtfacflbmlfbeeaaGreatDoorZ06
import Derived.Test.YtfacflbmlfbeeaaGreatDoorZ05
namespace Go.Proofs.YtfacflbmlfbeeaaGreatDoor
set_option maxRecDepth 100000
set_option linter.unusedVariables false
def VC_ulen (c : Int) (w : World) (R : Ending -> World -> Prop) : Prop := bsp (decide (c ≥ 240) && decide (c <= 244)) (R (.returned (.int .i64 (IntKind.i64.wrap (IntKind.i64.wrap (IntKind.i64.wrap (IntKind.i64.wrap (0 + 1) + 1) + 1) + 1)))) w) (bsp (decide (c ≥ 224) && decide (c <= 239)) (R (.returned (.int .i64 (IntKind.i64.wrap (IntKind.i64.wrap (IntKind.i64.wrap (0 + 1) + 1) + 1)))) w) (bsp (decide (c ≥ 194) && decide (c <= 223)) (R (.returned (.int .i64 (IntKind.i64.wrap (IntKind.i64.wrap (0 + 1) + 1)))) w) (bsp (decide (c <= 127)) (R (.returned (.int .i64 (IntKind.i64.wrap (0 + 1)))) w) (R (.returned (.int .i64 0)) w))))
theorem vc_ulen (c : Int) (w : World) (R : Ending -> World -> Prop) (h : VC_ulen c w R) : Calls Tryz.prog 157 ([Value.int .u8 c] : List Value).toArray w R :=
 calls_of_exec2' (loops := []) (tails := []) (joins := []) (boxes := []) (rngs := []) (c := Tryz.f157.body.getD .skip) pur1_ok Tryz.func157 (by kernel_rfl) (by kernel_rfl) h
def VC_ucont (f : Int) (i : Int) (c : Int) (w : World) (R : Ending -> World -> Prop) : Prop := bsp (i == 1) (bsp (f == 224) (R (.returned (.bool (decide (c ≥ 160) && decide (c <= 191)))) w) (bsp (f == 237) (R (.returned (.bool (decide (c ≥ 128) && decide (c <= 159)))) w) (bsp (f == 240) (R (.returned (.bool (decide (c ≥ 144) && decide (c <= 191)))) w) (bsp (f == 244) (R (.returned (.bool (decide (c ≥ 128) && decide (c <= 143)))) w) (R (.returned (.bool (decide (c ≥ 128) && decide (c <= 191)))) w))))) (R (.returned (.bool (decide (c ≥ 128) && decide (c <= 191)))) w)
theorem vc_ucont (f : Int) (i : Int) (c : Int) (w : World) (R : Ending -> World -> Prop) (h : VC_ucont f i c w R) : Calls Tryz.prog 158 ([Value.int .u8 f, .int .i64 i, .int .u8 c] : List Value).toArray w R :=
 calls_of_exec2' (loops := []) (tails := []) (joins := []) (boxes := []) (rngs := []) (c := Tryz.f158.body.getD .skip) pur1_ok Tryz.func158 (by kernel_rfl) (by kernel_rfl) h
def VC_umeas (s : ByteArray) (w : World) (R : Ending -> World -> Prop) : Prop := gimp (!s.toList == []) ((0 : Int) <= 0 /\ 0 < (↑s.size : Int)) /\ bsp (!s.toList == []) (CallsS Tryz.prog 157 #[.int .u8 (at8 s 0)] w fun (e : Ending) (w' : World) => ∃ (x : Int), e = .returned (.int .i64 x) /\ KeptL [] w w' /\ bsp (false || x == 0) (R (.returned (.tuple #[.int .i64 0, .bool false])) w') (((0 : Int) <= 0 /\ 0 < (↑s.size : Int)) /\ CallsS Tryz.prog 157 #[.int .u8 (at8 s 0)] w' fun (e : Ending) (w'_1 : World) => ∃ (x : Int), e = .returned (.int .i64 x) /\ KeptL [] w' w'_1 /\ ∃ (I : List Value -> World -> Prop) (m : List Value -> World -> Nat), I [Value.int .i64 1] w'_1 /\ ∀ (x_1 : Int) (w' : World), I [Value.int .i64 x_1] w' -> gimp (decide (x_1 < x) && decide (x_1 < (↑s.size : Int))) ((0 : Int) <= 0 /\ 0 < (↑s.size : Int)) /\
 gimp (decide (x_1 < x) && decide (x_1 < (↑s.size : Int))) (0 <= x_1 /\ x_1 < (↑s.size : Int)) /\ ∀ (W : World), Loc w.heap.size [] w' W -> bsp (decide (x_1 < x) && decide (x_1 < (↑s.size : Int))) (CallsS Tryz.prog 158 #[.int .u8 (at8 s 0), .int .i64 x_1, .int .u8 (at8 s x_1.toNat)] W fun (e : Ending) (w'_2 : World) => ∃ (x_2 : Bool), e = .returned (.bool x_2) /\ KeptL [] W w'_2 /\ bsp (true && x_2) (I [Value.int .i64 (IntKind.i64.wrap (x_1 + 1))] w'_2 /\ m [Value.int .i64 (IntKind.i64.wrap (x_1 + 1))] w'_2 < m [Value.int .i64 x_1] w') (R (.returned (.tuple #[.int .i64 x_1, .bool (x_1 == x)])) w'_2)) (KeptL [] W W /\ R (.returned (.tuple #[.int .i64 x_1, .bool (x_1 == x)])) W))) (KeptL [] w w /\ R (.returned (.tuple #[.int .i64 0, .bool false])) w)
theorem vc_umeas (s : ByteArray) (w : World) (R : Ending -> World -> Prop) (h : VC_umeas s w R) : Calls Tryz.prog 135 ([Value.string s] : List Value).toArray w R :=
 calls_of_exec2' (loops := [(5, [(2, Ck.int .i64)])]) (tails := [(5, 16)]) (joins := []) (boxes := []) (rngs := []) (c := Tryz.f135.body.getD .skip) pur1_ok Tryz.func135 (by kernel_rfl) (by kernel_rfl) h
def VC_uval (s : ByteArray) (w : World) (R : Ending -> World -> Prop) : Prop := ((0 : Int) <= 0 /\ 0 < (↑s.size : Int)) /\ bsp (decide ((↑s.size : Int) > 1)) (∃ (I : List Value -> World -> Prop) (m : List Value -> World -> Nat), I [Value.int .i64 1, .int .i32 (IntKind.i32.wrap (↑(BitVec.ofInt 32 (IntKind.i32.wrap (at8 s 0)) &&& BitVec.ofInt 32 (Int.fdiv 127 (2 ^ min (↑s.size : Int).toNat 32))).toNat : Int))] w /\ ∀ (x x_1 : Int) (w' : World), I [Value.int .i64 x, .int .i32 x_1] w' -> bsp (decide (x < (↑s.size : Int))) ((0 <= x /\ x < (↑s.size : Int)) /\ I [Value.int .i64 (IntKind.i64.wrap (x + 1)), .int .i32 (IntKind.i32.wrap (↑(BitVec.ofInt 32 (IntKind.i32.wrap (x_1 * 2 ^ 6)) ||| BitVec.ofInt 32 (IntKind.i32.wrap (IntKind.u8.wrap (↑(BitVec.ofInt 8 (at8 s x.toNat) &&& BitVec.ofInt 8 63).toNat : Int)))).toNat : Int))] w' /\ m [Value.int .i64 (IntKind.i64.wrap (x + 1)), .int .i32
 (IntKind.i32.wrap (↑(BitVec.ofInt 32 (IntKind.i32.wrap (x_1 * 2 ^ 6)) ||| BitVec.ofInt 32 (IntKind.i32.wrap (IntKind.u8.wrap (↑(BitVec.ofInt 8 (at8 s x.toNat) &&& BitVec.ofInt 8 63).toNat : Int)))).toNat : Int))] w' < m [Value.int .i64 x, .int .i32 x_1] w') (R (.returned (.int .i32 x_1)) w')) (∃ (I : List Value -> World -> Prop) (m : List Value -> World -> Nat), I [Value.int .i64 1, .int .i32 (IntKind.i32.wrap (at8 s 0))] w /\ ∀ (x x_1 : Int) (w' : World), I [Value.int .i64 x, .int .i32 x_1] w' -> bsp (decide (x < (↑s.size : Int))) ((0 <= x /\ x < (↑s.size : Int)) /\ I [Value.int .i64 (IntKind.i64.wrap (x + 1)), .int .i32 (IntKind.i32.wrap (↑(BitVec.ofInt 32 (IntKind.i32.wrap (x_1 * 2 ^ 6)) ||| BitVec.ofInt 32 (IntKind.i32.wrap (IntKind.u8.wrap (↑(BitVec.ofInt 8 (at8 s x.toNat) &&& BitVec.ofInt 8 63).toNat : Int)))).toNat : Int))] w' /\ m [Value.int .i64 (IntKind.i64.wrap (x + 1)),
 .int .i32 (IntKind.i32.wrap (↑(BitVec.ofInt 32 (IntKind.i32.wrap (x_1 * 2 ^ 6)) ||| BitVec.ofInt 32 (IntKind.i32.wrap (IntKind.u8.wrap (↑(BitVec.ofInt 8 (at8 s x.toNat) &&& BitVec.ofInt 8 63).toNat : Int)))).toNat : Int))] w' < m [Value.int .i64 x, .int .i32 x_1] w') (R (.returned (.int .i32 x_1)) w'))
theorem vc_uval (s : ByteArray) (w : World) (R : Ending -> World -> Prop) (h : VC_uval s w R) : Calls Tryz.prog 136 ([Value.string s] : List Value).toArray w R :=
 calls_of_exec2' (loops := [(5, [(4, Ck.int .i64), (3, Ck.int .i32)])]) (tails := []) (joins := []) (boxes := []) (rngs := []) (c := Tryz.f136.body.getD .skip) pur1_ok Tryz.func136 (by kernel_rfl) (by kernel_rfl) h
def VC_udec (s : ByteArray) (w : World) (R : Ending -> World -> Prop) : Prop := bsp (s.toList == []) (R (.returned (.tuple #[.int .i32 0, .int .i64 0, .int .i64 1])) w) (CallsS Tryz.prog 135 #[.string s] w fun (e : Ending) (w' : World) => ∃ (x : Int) (x_1 : Bool), e = .returned (.tuple #[.int .i64 x, .bool x_1]) /\ KeptL [] w w' /\ bsp x_1 ((0 <= x /\ x <= (↑s.size : Int)) /\ CallsS Tryz.prog 136 #[.string (s.extract 0 x.toNat)] w' fun (e : Ending) (w'_1 : World) => ∃ (x_2 : Int), e = .returned (.int .i32 x_2) /\ KeptL [] w' w'_1 /\ R (.returned (.tuple #[.int .i32 x_2, .int .i64 x, .int .i64 0])) w'_1) (bsp (x == 0) (R (.returned (.tuple #[.int .i32 0, .int .i64 0, .int .i64 6])) w') (bsp (x == (↑s.size : Int)) (R (.returned (.tuple #[.int .i32 0, .int .i64 0, .int .i64 23])) w') (R (.returned (.tuple #[.int .i32 0, .int .i64 0, .int .i64 3])) w'))))
theorem vc_udec (s : ByteArray) (w : World) (R : Ending -> World -> Prop) (h : VC_udec s w R) : Calls Tryz.prog 115 ([Value.string s] : List Value).toArray w R :=
 calls_of_exec2' (loops := []) (tails := []) (joins := []) (boxes := []) (rngs := []) (c := Tryz.f115.body.getD .skip) pur1_ok Tryz.func115 (by kernel_rfl) (by kernel_rfl) h
def VC_ucheck (s : ByteArray) (w : World) (R : Ending -> World -> Prop) : Prop := ∃ (I : List Value -> World -> Prop) (m : List Value -> World -> Nat), I [Value.int .i64 0] w /\ ∀ (x : Int) (w' : World), I [Value.int .i64 x] w' -> bsp (decide (x < (↑s.size : Int))) ((0 <= x /\ x <= (↑s.size : Int)) /\ CallsS Tryz.prog 115 #[.string (s.extract x.toNat s.size)] w' fun (e : Ending) (w'_1 : World) => ∃ (x_1 : Int) (x_2 : Int) (x_3 : Int), e = .returned (.tuple #[.int .i32 x_1, .int .i64 x_2, .int .i64 x_3]) /\ KeptL [] w' w'_1 /\ bsp (x_3 != 0) (R (.returned (.tuple #[.int .i64 x, .int .i64 x_3])) w'_1) (I [Value.int .i64 (IntKind.i64.wrap (x + x_2))] w'_1 /\ m [Value.int .i64 (IntKind.i64.wrap (x + x_2))] w'_1 < m [Value.int .i64 x] w')) (R (.returned (.tuple #[.int .i64 0, .int .i64 0])) w')
theorem vc_ucheck (s : ByteArray) (w : World) (R : Ending -> World -> Prop) (h : VC_ucheck s w R) : Calls Tryz.prog 113 ([Value.string s] : List Value).toArray w R :=
 calls_of_exec2' (loops := [(2, [(4, Ck.int .i64)])]) (tails := []) (joins := []) (boxes := []) (rngs := []) (c := Tryz.f113.body.getD .skip) pur1_ok Tryz.func113 (by kernel_rfl) (by kernel_rfl) h
def VC_uvalid (s : ByteArray) (w : World) (R : Ending -> World -> Prop) : Prop := CallsS Tryz.prog 113 #[.string s] w fun (e : Ending) (w' : World) => ∃ (x : Int) (x_1 : Int), e = .returned (.tuple #[.int .i64 x, .int .i64 x_1]) /\ KeptL [] w w' /\ R (.returned (.bool (x_1 == 0))) w'
theorem vc_uvalid (s : ByteArray) (w : World) (R : Ending -> World -> Prop) (h : VC_uvalid s w R) : Calls Tryz.prog 91 ([Value.string s] : List Value).toArray w R :=
 calls_of_exec2' (loops := []) (tails := []) (joins := []) (boxes := []) (rngs := []) (c := Tryz.f91.body.getD .skip) pur1_ok Tryz.func91 (by kernel_rfl) (by kernel_rfl) h
def VC_uctl (r : Int) (w : World) (R : Ending -> World -> Prop) : Prop := R (.returned (.bool (decide (r <= 31) || decide (r ≥ 127) && decide (r <= 159) || r == 8232 || r == 8233))) w
theorem vc_uctl (r : Int) (w : World) (R : Ending -> World -> Prop) (h : VC_uctl r w R) : Calls Tryz.prog 93 ([Value.int .i32 r] : List Value).toArray w R :=
 calls_of_exec2' (loops := []) (tails := []) (joins := []) (boxes := []) (rngs := []) (c := Tryz.f93.body.getD .skip) pur1_ok Tryz.func93 (by kernel_rfl) (by kernel_rfl) h
def VC_urunes (s : ByteArray) (w : World) (R : Ending -> World -> Prop) : Prop := ∀ (n : Nat) (W : World), Loc w.heap.size [Blk.mk n 9 [Value.string s] 2] w W -> R (.returned (Value.func (Fn.func 114) #[] #[.pointer (some (Addr.mk n 0 none))])) W
theorem vc_urunes (s : ByteArray) (w : World) (R : Ending -> World -> Prop) (h : VC_urunes s w R) : Calls Tryz.prog 92 ([Value.string s] : List Value).toArray w R :=
 calls_of_exec2' (loops := []) (tails := []) (joins := []) (boxes := []) (rngs := []) (c := Tryz.f92.body.getD .skip) pur1_ok Tryz.func92 (by kernel_rfl) (by kernel_rfl) h
def VC_xlead (c : Int) (w : World) (R : Ending -> World -> Prop) : Prop := bsp (decide (c < 128)) (R (.returned (.tuple #[.int .i64 1, .int .i64 (IntKind.i64.wrap c)])) w) (bsp (decide (c ≥ 192) && decide (c < 224)) (R (.returned (.tuple #[.int .i64 2, .int .i64 (IntKind.i64.wrap (IntKind.i64.wrap c - 192))])) w) (bsp (decide (c ≥ 224) && decide (c < 240)) (R (.returned (.tuple #[.int .i64 3, .int .i64 (IntKind.i64.wrap (IntKind.i64.wrap c - 224))])) w) (bsp (decide (c ≥ 240) && decide (c < 248)) (R (.returned (.tuple #[.int .i64 4, .int .i64 (IntKind.i64.wrap (IntKind.i64.wrap c - 240))])) w) (R (.returned (.tuple #[.int .i64 0, .int .i64 0])) w))))
theorem vc_xlead (c : Int) (w : World) (R : Ending -> World -> Prop) (h : VC_xlead c w R) : Calls Tryz.prog 137 ([Value.int .u8 c] : List Value).toArray w R :=
 calls_of_exec2' (loops := []) (tails := []) (joins := []) (boxes := []) (rngs := []) (c := Tryz.f137.body.getD .skip) pur1_ok Tryz.func137 (by kernel_rfl) (by kernel_rfl) h
def VC_xleast (n : Int) (w : World) (R : Ending -> World -> Prop) : Prop := ∀ (n_1 : Nat) (W : World), Loc w.heap.size [Blk.mk n_1 3 [Value.int .i64 0, .int .i64 0, .int .i64 128, .int .i64 2048, .int .i64 65536] 2] w W -> (0 <= n /\ n < (↑5 : Int)) /\ ∃ (x : Int), W.cell? (Addr.mk n_1 (0 + n.toNat) none) = some (.int .i64 x) /\ R (.returned (.int .i64 x)) W
theorem vc_xleast (n : Int) (w : World) (R : Ending -> World -> Prop) (h : VC_xleast n w R) : Calls Tryz.prog 138 ([Value.int .i64 n] : List Value).toArray w R :=
 calls_of_exec2' (loops := []) (tails := []) (joins := []) (boxes := []) (rngs := []) (c := Tryz.f138.body.getD .skip) pur1_ok Tryz.func138 (by kernel_rfl) (by kernel_rfl) h
def VC_xmost (n : Int) (w : World) (R : Ending -> World -> Prop) : Prop := ∀ (n_1 : Nat) (W : World), Loc w.heap.size [Blk.mk n_1 3 [Value.int .i64 0, .int .i64 127, .int .i64 2047, .int .i64 65535, .int .i64 1114111] 2] w W -> (0 <= n /\ n < (↑5 : Int)) /\ ∃ (x : Int), W.cell? (Addr.mk n_1 (0 + n.toNat) none) = some (.int .i64 x) /\ R (.returned (.int .i64 x)) W
theorem vc_xmost (n : Int) (w : World) (R : Ending -> World -> Prop) (h : VC_xmost n w R) : Calls Tryz.prog 139 ([Value.int .i64 n] : List Value).toArray w R :=
 calls_of_exec2' (loops := []) (tails := []) (joins := []) (boxes := []) (rngs := []) (c := Tryz.f139.body.getD .skip) pur1_ok Tryz.func139 (by kernel_rfl) (by kernel_rfl) h
def VC_xbegins (s : ByteArray) (w : World) (R : Ending -> World -> Prop) : Prop := ((0 : Int) <= 0 /\ 0 < (↑s.size : Int)) /\ CallsS Tryz.prog 137 #[.int .u8 (at8 s 0)] w fun (e : Ending) (w' : World) => ∃ (x : Int) (x_1 : Int), e = .returned (.tuple #[.int .i64 x, .int .i64 x_1]) /\ KeptL [] w w' /\ bsp (x == 0 || decide ((↑s.size : Int) > x)) (R (.returned (.tuple #[.bool false, .int .i64 0, .int .i64 0])) w') (∃ (I : List Value -> World -> Prop) (m : List Value -> World -> Nat), I [Value.int .i64 1, .int .i64 x_1] w' /\ ∀ (x_2 x_3 : Int) (w' : World), I [Value.int .i64 x_2, .int .i64 x_3] w' -> bsp (decide (x_2 < (↑s.size : Int))) ((0 <= x_2 /\ x_2 < (↑s.size : Int)) /\ gimp (!decide (at8 s x_2.toNat < 128)) (0 <= x_2 /\ x_2 < (↑s.size : Int)) /\ bsp (decide (at8 s x_2.toNat < 128) || decide (at8 s x_2.toNat > 191))
 (R (.returned (.tuple #[.bool false, .int .i64 0, .int .i64 0])) w') ((0 <= x_2 /\ x_2 < (↑s.size : Int)) /\ I [Value.int .i64 (IntKind.i64.wrap (x_2 + 1)), .int .i64 (IntKind.i64.wrap (IntKind.i64.wrap (IntKind.i64.wrap (64 * x_3) + IntKind.i64.wrap (at8 s x_2.toNat)) - 128))] w' /\ m [Value.int .i64 (IntKind.i64.wrap (x_2 + 1)), .int .i64 (IntKind.i64.wrap (IntKind.i64.wrap (IntKind.i64.wrap (64 * x_3) + IntKind.i64.wrap (at8 s x_2.toNat)) - 128))] w' < m [Value.int .i64 x_2, .int .i64 x_3] w')) (∃ (I : List Value -> World -> Prop) (m : List Value -> World -> Nat), I [Value.int .i64 (↑s.size : Int), .int .i64 x_3, .int .i64 x_3] w' /\ ∀ (x_4 x_5 x_6 : Int) (w' : World), I [Value.int .i64 x_4, .int .i64 x_5, .int .i64 x_6] w' -> bsp (decide (x_4 < x)) (I [Value.int .i64 (IntKind.i64.wrap (x_4 + 1)), .int .i64 (IntKind.i64.wrap (IntKind.i64.wrap (64 * x_5) + 63)),
 .int .i64 (IntKind.i64.wrap (64 * x_6))] w' /\ m [Value.int .i64 (IntKind.i64.wrap (x_4 + 1)), .int .i64 (IntKind.i64.wrap (IntKind.i64.wrap (64 * x_5) + 63)), .int .i64 (IntKind.i64.wrap (64 * x_6))] w' < m [Value.int .i64 x_4, .int .i64 x_5, .int .i64 x_6] w') (CallsS Tryz.prog 138 #[.int .i64 x] w' fun (e : Ending) (w'_1 : World) => ∃ (x_7 : Int), e = .returned (.int .i64 x_7) /\ KeptL [] w' w'_1 /\ CallsS Tryz.prog 139 #[.int .i64 x] w'_1 fun (e : Ending) (w' : World) => ∃ (x_8 : Int), e = .returned (.int .i64 x_8) /\ KeptL [] w'_1 w' /\ bsp (decide ((if x_7 > x_6 then x_7 else x_6) ≥ 55296) && decide ((if x_8 < x_5 then x_8 else x_5) <= 57343) || decide ((if x_7 > x_6 then x_7 else x_6) > if x_8 < x_5 then x_8 else x_5)) (R (.returned (.tuple #[.bool false, .int .i64 0, .int .i64 0])) w') (R (.returned (.tuple #[.bool true, .int .i64 x, .int .i64 x_3])) w'))))
theorem vc_xbegins (s : ByteArray) (w : World) (R : Ending -> World -> Prop) (h : VC_xbegins s w R) : Calls Tryz.prog 116 ([Value.string s] : List Value).toArray w R :=
 calls_of_exec2' (loops := [(5, [(7, Ck.int .i64), (6, Ck.int .i64)]), (12, [(10, Ck.int .i64), (9, Ck.int .i64), (8, Ck.int .i64)])]) (tails := []) (joins := []) (boxes := []) (rngs := []) (c := Tryz.f116.body.getD .skip) pur1_ok Tryz.func116 (by kernel_rfl) (by kernel_rfl) h
def VC_xfirst (s : ByteArray) (w : World) (R : Ending -> World -> Prop) : Prop := ((0 : Int) <= 1 /\ 1 <= (↑s.size : Int)) /\ CallsS Tryz.prog 116 #[.string (s.extract 0 1)] w fun (e : Ending) (w' : World) => ∃ (x : Bool) (x_1 : Int) (x_2 : Int), e = .returned (.tuple #[.bool x, .int .i64 x_1, .int .i64 x_2]) /\ KeptL [] w w' /\ bsp (!x) (R (.returned (.tuple #[.int .i64 0, .int .i64 0, .int .i64 6])) w') (bsp (decide ((↑s.size : Int) ≥ x_1)) ((0 <= x_1 /\ x_1 <= (↑s.size : Int)) /\ CallsS Tryz.prog 116 #[.string (s.extract 0 x_1.toNat)] w' fun (e : Ending) (w'_1 : World) => ∃ (x : Bool) (x_3 : Int) (x_4 : Int), e = .returned (.tuple #[.bool x, .int .i64 x_3, .int .i64 x_4]) /\ KeptL [] w' w'_1 /\ bsp x (R (.returned (.tuple #[.int .i64 x_4, .int .i64 x_1, .int .i64 0])) w'_1) (R (.returned (.tuple #[.int .i64 0, .int .i64 0, .int .i64 3])) w'_1))
 (CallsS Tryz.prog 116 #[.string s] w' fun (e : Ending) (w'_1 : World) => ∃ (x : Bool) (x_3 : Int) (x_4 : Int), e = .returned (.tuple #[.bool x, .int .i64 x_3, .int .i64 x_4]) /\ KeptL [] w' w'_1 /\ bsp x (R (.returned (.tuple #[.int .i64 0, .int .i64 0, .int .i64 23])) w'_1) (R (.returned (.tuple #[.int .i64 0, .int .i64 0, .int .i64 3])) w'_1)))
theorem vc_xfirst (s : ByteArray) (w : World) (R : Ending -> World -> Prop) (h : VC_xfirst s w R) : Calls Tryz.prog 96 ([Value.string s] : List Value).toArray w R :=
 calls_of_exec2' (loops := []) (tails := []) (joins := []) (boxes := []) (rngs := []) (c := Tryz.f96.body.getD .skip) pur1_ok Tryz.func96 (by kernel_rfl) (by kernel_rfl) h
def VC_xall (s : ByteArray) (w : World) (R : Ending -> World -> Prop) : Prop := ∃ (I : List Value -> World -> Prop) (m : List Value -> World -> Nat), I [Value.int .i64 0, .slice none 0 0, .slice none 0 0] w /\ ∀ (x : Int) (p : Option Addr) (n c : Nat) (p_1 : Option Addr) (n_1 c_1 : Nat) (w' : World), I [Value.int .i64 x, .slice p n c, .slice p_1 n_1 c_1] w' -> bsp (decide (x < (↑s.size : Int))) ((0 <= x /\ x <= (↑s.size : Int)) /\ CallsS Tryz.prog 96 #[.string (s.extract x.toNat s.size)] w' fun (e : Ending) (w'_1 : World) => ∃ (x_1 : Int) (x_2 : Int) (x_3 : Int), e = .returned (.tuple #[.int .i64 x_1, .int .i64 x_2, .int .i64 x_3]) /\ KeptL [] w' w'_1 /\ bsp (x_3 != 0) (R (.returned (.tuple #[.slice p_1 n_1 c_1, .slice p n c, .int .i64 x, .int .i64 x_3])) w'_1) (∀ (n_2 : Nat) (W : World), Loc w.heap.size [Blk.mk n_2 3 [Value.int .i64 x_1] 2] w'_1 W -> ∃ (base : Nat),
 ∃ (xs : List Value), W.ownsRow base 3 1 (.slice p_1 n_1 c_1) n_1 xs /\ n_1 + 1 <= 9223372036854775807 /\ (n_1 + 1) * 8 <= 140737488355328 /\ base <= W.heap.size /\ ∀ (p' : Option Addr) (c' : Nat) (w'_2 : World), w'_2.ownsRow base 3 1 (.slice p' (n_1 + 1) c') (n_1 + 1) (xs ++ [Value.int .i64 x_1]) -> W.grownBy w'_2 (Value.slice p_1 n_1 c_1).ownBlock -> AppL W p_1 n_1 c_1 1 p' c' -> KeptL [] W w'_2 /\ ∀ (n_3 : Nat) (W : World), Loc w.heap.size [Blk.mk n_3 3 [Value.int .i64 x] 2] w'_2 W -> ∃ (base : Nat) (xs : List Value), W.ownsRow base 3 1 (.slice p n c) n xs /\ n + 1 <= 9223372036854775807 /\ (n + 1) * 8 <= 140737488355328 /\ base <= W.heap.size /\ ∀ (p'_1 : Option Addr) (c'_1 : Nat) (w'_3 : World), w'_3.ownsRow base 3 1 (.slice p'_1 (n + 1) c'_1) (n + 1) (xs ++ [Value.int .i64 x]) -> W.grownBy w'_3 (Value.slice p n c).ownBlock -> AppL W p n c 1 p'_1 c'_1 -> KeptL [] W w'_3 /\ I
 [Value.int .i64 (IntKind.i64.wrap (x + x_2)), .slice p'_1 (n + 1) c'_1, .slice p' (n_1 + 1) c'] w'_3 /\ m [Value.int .i64 (IntKind.i64.wrap (x + x_2)), .slice p'_1 (n + 1) c'_1, .slice p' (n_1 + 1) c'] w'_3 < m [Value.int .i64 x, .slice p n c, .slice p_1 n_1 c_1] w')) (R (.returned (.tuple #[.slice p_1 n_1 c_1, .slice p n c, .int .i64 0, .int .i64 0])) w')
theorem vc_xall (s : ByteArray) (w : World) (R : Ending -> World -> Prop) (h : VC_xall s w R) : Calls Tryz.prog 58 ([Value.string s] : List Value).toArray w R :=
 calls_of_exec2' (loops := [(3, [(8, Ck.int .i64), (7, Ck.slice), (6, Ck.slice)])]) (tails := []) (joins := []) (boxes := []) (rngs := []) (c := Tryz.f58.body.getD .skip) pur1_ok Tryz.func58 (by kernel_rfl) (by kernel_rfl) h
def VC_xctl (r : Int) (w : World) (R : Ending -> World -> Prop) : Prop := R (.returned (.bool (decide (r < 32) || decide (r ≥ 127) && decide (r <= 159) || r == 8232 || r == 8233))) w
theorem vc_xctl (r : Int) (w : World) (R : Ending -> World -> Prop) (h : VC_xctl r w R) : Calls Tryz.prog 59 ([Value.int .i64 r] : List Value).toArray w R :=
 calls_of_exec2' (loops := []) (tails := []) (joins := []) (boxes := []) (rngs := []) (c := Tryz.f59.body.getD .skip) pur1_ok Tryz.func59 (by kernel_rfl) (by kernel_rfl) h
end Go.Proofs.YtfacflbmlfbeeaaGreatDoor
namespace Go.Proofs.YtfacflbmlfbeeaaGreatDoor
open Go.RowKit
theorem wr32 {z : Int} (h : 0 <= z /\ z < 2147483648) : IntKind.i32.wrap z = z := by
 simp [IntKind.wrap, IntKind.bits, IntKind.signed]
 omega
theorem and63 : ∀ b : Fin 256, IntKind.u8.wrap ((BitVec.ofInt 8 (b.val : Int) &&& BitVec.ofInt 8 63).toNat : Nat) = (b.val : Int) % 64 := by decide +kernel
theorem or6 {x b : Int} (hx : 0 <= x /\ x < 16777216) (hb : 128 <= b /\ b <= 191) :
  IntKind.i32.wrap ((BitVec.ofInt 32 (IntKind.i32.wrap (x * 2 ^ 6)) ||| BitVec.ofInt 32 (IntKind.i32.wrap (IntKind.u8.wrap ((BitVec.ofInt 8 b &&& BitVec.ofInt 8 63).toNat : Nat)))).toNat : Nat) = 64 * x + b - 128 := by
 have h1 := and63 ⟨b.toNat, by omega⟩
 have e1 : ((b.toNat : Nat) : Int) = b := by omega
 simp only [e1] at h1
 rw [h1, wr32 (z := b % 64) (by omega), wr32 (z := x * 2 ^ 6) (by omega)]
 obtain ⟨n, rfl⟩ : ∃ n : Nat, x = n := ⟨x.toNat, by omega⟩
 have e2 : (BitVec.ofInt 32 ((n : Int) * 2 ^ 6) ||| BitVec.ofInt 32 (b % 64)).toNat = 64 * n + (b % 64).toNat := by
  rw [BitVec.toNat_or, BitVec.toNat_ofInt, BitVec.toNat_ofInt]
  have a1 : ((n : Int) * 2 ^ 6 % ((2 ^ 32 : Nat) : Int)).toNat = n <<< 6 := by
   rw [Nat.shiftLeft_eq]; omega
  have a2 : (b % 64 % ((2 ^ 32 : Nat) : Int)).toNat = (b % 64).toNat := by omega
  rw [a1, a2, <- Nat.shiftLeft_add_eq_or_of_lt (by omega), Nat.shiftLeft_eq]
  omega
 rw [e2, wr32 (by omega)]
 omega
theorem msk2 : ∀ c : Fin 256, lenU (c.val : Int) = 2 -> IntKind.i32.wrap ((BitVec.ofInt 32 (IntKind.i32.wrap (c.val : Int)) &&& BitVec.ofInt 32 (Int.fdiv 127 (2 ^ min (2 : Nat) 32))).toNat : Nat) = v0U 2 (c.val : Int) := by decide +kernel
theorem msk3 : ∀ c : Fin 256, lenU (c.val : Int) = 3 -> IntKind.i32.wrap ((BitVec.ofInt 32 (IntKind.i32.wrap (c.val : Int)) &&& BitVec.ofInt 32 (Int.fdiv 127 (2 ^ min (3 : Nat) 32))).toNat : Nat) = v0U 3 (c.val : Int) := by decide +kernel
theorem msk4 : ∀ c : Fin 256, lenU (c.val : Int) = 4 -> IntKind.i32.wrap ((BitVec.ofInt 32 (IntKind.i32.wrap (c.val : Int)) &&& BitVec.ofInt 32 (Int.fdiv 127 (2 ^ min (4 : Nat) 32))).toNat : Nat) = v0U 4 (c.val : Int) := by decide +kernel
theorem msk {c : Int} (hc : 0 <= c /\ c <= 255) {n : Nat} (hl : lenU c = n) (hn : 2 <= n) : IntKind.i32.wrap ((BitVec.ofInt 32 (IntKind.i32.wrap c) &&& BitVec.ofInt 32 (Int.fdiv 127 (2 ^ min n 32))).toNat : Nat) = v0U n c := by
 have e : ((c.toNat : Nat) : Int) = c := by omega
 have h4 := lenU_le c
 obtain rfl | rfl | rfl : n = 2 \/ n = 3 \/ n = 4 := by omega
 ·have := msk2 ⟨c.toNat, by omega⟩; simp only [e] at this; exact this hl
 ·have := msk3 ⟨c.toNat, by omega⟩; simp only [e] at this; exact this hl
 ·have := msk4 ⟨c.toNat, by omega⟩; simp only [e] at this; exact this hl
theorem ulen_any (c : Int) (hc : 0 <= c /\ c <= 255) (w : World) : Calls Tryz.prog 157 #[.int .u8 c] w fun e w' => e = .returned (.int .i64 (lenU c : Nat)) /\ K0 w w' := by
 refine vc_ulen c w _ ?_
 unfold lenU
 refine bsp_intro (fun h => ?_) (fun h => bsp_intro (fun h2 => ?_) (fun h2 => bsp_intro (fun h3 => ?_) (fun h3 => bsp_intro (fun h4 => ?_) (fun h4 => ?_))))
 ·simp at h
  rw [if_pos (by omega)]; exact ⟨rfl, .refl _ _⟩
 ·simp at h h2
  rw [if_neg (by omega), if_pos (by omega)]; exact ⟨rfl, .refl _ _⟩
 ·simp at h h2 h3
  rw [if_neg (by omega), if_neg (by omega), if_pos (by omega)]; exact ⟨rfl, .refl _ _⟩
 ·simp at h h2 h3 h4
  rw [if_neg (by omega), if_neg (by omega), if_neg (by omega), if_pos (by omega)]; exact ⟨rfl, .refl _ _⟩
 ·simp at h h2 h3 h4
  rw [if_neg (by omega), if_neg (by omega), if_neg (by omega), if_neg (by omega)]; exact ⟨rfl, .refl _ _⟩
theorem ucont_any (f : Int) (i : Nat) (c : Int) (w : World) : Calls Tryz.prog 158 #[.int .u8 f, .int .i64 (i : Int), .int .u8 c] w fun e w' => e = .returned (.bool (conU f i c)) /\ K0 w w' := by
 refine vc_ucont f i c w _ ?_
 unfold conU
 refine bsp_intro (fun h => ?_) (fun h => ?_)
 ·have h : i = 1 := by simp at h; omega
  rw [if_pos h]
  refine bsp_intro (fun h => ?_) (fun h => bsp_intro (fun h2 => ?_) (fun h2 => bsp_intro (fun h3 => ?_) (fun h3 => bsp_intro (fun h4 => ?_) (fun h4 => ?_))))
  ·rw [if_pos (by simpa using h)]; exact ⟨rfl, .refl _ _⟩
  ·rw [if_neg (by simpa using h), if_pos (by simpa using h2)]; exact ⟨rfl, .refl _ _⟩
  ·rw [if_neg (by simpa using h), if_neg (by simpa using h2), if_pos (by simpa using h3)]; exact ⟨rfl, .refl _ _⟩
  ·rw [if_neg (by simpa using h), if_neg (by simpa using h2), if_neg (by simpa using h3), if_pos (by simpa using h4)]; exact ⟨rfl, .refl _ _⟩
  ·rw [if_neg (by simpa using h), if_neg (by simpa using h2), if_neg (by simpa using h3), if_neg (by simpa using h4)]; exact ⟨rfl, .refl _ _⟩
 ·have h : ¬ i = 1 := by simp at h; omega
  rw [if_neg h]
  exact ⟨rfl, .refl _ _⟩
theorem umeas_any (s : ByteArray) (w : World) (h0 : 0 < s.size) (hs : s.size <= 1073741824) : Calls Tryz.prog 135 #[.string s] w fun e w' => (∃ (k : Nat) (b : Bool), e = .returned (.tuple #[.int .i64 (k : Int), .bool b]) /\ (b = true ↔ okU s) /\ (b = true -> k = lenU (at8 s 0)) /\ (b = false -> k <= s.size)) /\ K0 w w' := by
 have hne : s.toList ≠ [] := fun e => by
  rw [ByteArray.toList_eq] at e
  have := congrArg List.length e
  simp at this
  rw [this] at h0
  exact absurd h0 (by decide)
 have hb := at8_bd s 0
 refine vc_umeas s w _ ⟨gimp_intro fun _ => ⟨by omega, by omega⟩, bsp_intro (fun _ => ?_) (fun h => by exfalso; simp at h; exact hne h)⟩
 refine ⟨(ulen_any (at8 s 0) hb w).mono fun e w1 ⟨he, k1⟩ => ⟨_, he, .of_k0 k1, bsp_intro (fun h => ?_) (fun h => ?_)⟩⟩
 ·have h : lenU (at8 s 0) = 0 := by simp at h; omega
  exact ⟨⟨0, false, rfl, ⟨(fun h => by cases h), fun hk => absurd h hk.1⟩, (fun h => by cases h), fun _ => by omega⟩, k1⟩
 have hl : lenU (at8 s 0) ≠ 0 := by simp at h; omega
 refine ⟨⟨by omega, by omega⟩, ⟨(ulen_any (at8 s 0) hb w1).mono fun e w2 ⟨he, k2⟩ => ⟨_, he, .of_k0 k2, ?_⟩⟩⟩
 refine ⟨fun vs w' => ∃ x : Nat, vs = [.int .i64 (x : Int)] /\ 1 <= x /\ x <= lenU (at8 s 0) /\ x <= s.size /\ (∀ i, 1 <= i -> i < x -> conU (at8 s 0) i (at8 s i) = true) /\ K0 w w',
  fun vs _ => (match vs with | .int _ a :: _ => s.size - a.toNat | _ => 0), ⟨1, rfl, by omega, by omega, by omega, fun i h1 h2 => by omega, k1.trans k2⟩, ?_⟩
 rintro y w3 ⟨x, hv, hx1, hxl, hxs, hall, k3⟩
 simp only [List.cons.injEq, Value.int.injEq, true_and, and_true] at hv
 subst hv
 have k4 := lenU_le (at8 s 0)
 refine ⟨gimp_intro fun _ => ⟨by omega, by omega⟩, gimp_intro fun hh => by simp at hh; omega, fun W hW => ?_⟩
 have kW : K0 w W := k3.trans (hW.kk rfl)
 rw [Int.toNat_natCast]
 refine bsp_intro (fun hh => ?_) (fun hh => ?_)
 ·have hh : x < lenU (at8 s 0) /\ x < s.size := by simp at hh; omega
  refine ⟨(ucont_any (at8 s 0) x (at8 s x) W).mono fun e w4 ⟨he, k4⟩ => ⟨_, he, .of_k0 k4, bsp_intro (fun h => ?_) (fun h => ?_)⟩⟩
  ·have h : conU (at8 s 0) x (at8 s x) = true := by simpa using h
   rw [inc64 (by omega)]
   refine ⟨⟨x + 1, rfl, by omega, by omega, by omega, fun i h1 h2 => ?_, kW.trans k4⟩, by simp only [Int.toNat_natCast]; omega⟩
   rcases Nat.lt_or_ge i x with h3 | h3
   ·exact hall i h1 h3
   ·obtain rfl : i = x := by omega
    exact h
  ·have h : conU (at8 s 0) x (at8 s x) = false := by simpa using h
   have hf : ((x : Int) == ((lenU (at8 s 0) : Nat) : Int)) = false := by simp; omega
   refine ⟨⟨x, false, by rw [hf], ⟨(fun h => by cases h), fun hk => ?_⟩, (fun h => by cases h), fun _ => hxs⟩, kW.trans k4⟩
   rw [hk.2.2 x hx1 hh.1] at h; cases h
 ·have hh : lenU (at8 s 0) <= x \/ s.size <= x := by simp at hh; omega
  refine ⟨.refl _ _, ⟨x, _, rfl, ⟨fun h => ?_, fun hk => ?_⟩, fun h => ?_, fun _ => hxs⟩, kW⟩
  ·have h : x = lenU (at8 s 0) := by simp at h; omega
   exact ⟨hl, by omega, fun i h1 h2 => hall i h1 (by omega)⟩
  ·have := hk.2.1
   simp; omega
  ·simp at h; omega
theorem val_ext (s : ByteArray) (n m : Nat) (hm : m <= s.size) : ∀ k, k <= m -> valU (s.extract 0 m) n k = valU s n k
 | 0, _ => rfl
 | 1, h => by
  show v0U n (at8 (s.extract 0 m) 0) = v0U n (at8 s 0)
  rw [T0.at8_extract s 0 m 0 (by omega) hm]
 | k + 2, h => by
  show 64 * valU (s.extract 0 m) n (k + 1) + at8 (s.extract 0 m) (k + 1) - 128 = 64 * valU s n (k + 1) + at8 s (k + 1) - 128
  rw [val_ext s n m hm (k + 1) (by omega), T0.at8_extract s 0 m (k + 1) (by omega) hm, Nat.zero_add]
theorem val_bd {s : ByteArray} (h : okU s) : ∀ k, 1 <= k -> k <= lenU (at8 s 0) -> 0 <= valU s (lenU (at8 s 0)) k /\ valU s (lenU (at8 s 0)) k < 128 * 64 ^ (k - 1)
 | 0, h1, _ => by omega
 | 1, _, _ => by
  have hb := at8_bd s 0
  show 0 <= v0U (lenU (at8 s 0)) (at8 s 0) /\ v0U (lenU (at8 s 0)) (at8 s 0) < 128 * 64 ^ 0
  unfold v0U
  rcases lenU_cases hb h.1 with ⟨e, h⟩ | ⟨e, h1, h2⟩ | ⟨e, h1, h2⟩ | ⟨e, h1, h2⟩ <;> rw [e] <;> simp <;> omega
 | k + 2, _, h2 => by
  have ih := val_bd h (k + 1) (by omega) (by omega)
  have hc := conU_val h (k + 1) (by omega) (by omega)
  show 0 <= 64 * valU s _ (k + 1) + at8 s (k + 1) - 128 /\ 64 * valU s _ (k + 1) + at8 s (k + 1) - 128 < 128 * 64 ^ (k + 1)
  have e : (64 : Int) ^ (k + 1) = 64 ^ k * 64 := Int.pow_succ 64 k
  have e2 : k + 1 - 1 = k := rfl
  rw [e2] at ih
  have hp : (1 : Int) <= 64 ^ k := Int.pow_pos (by decide)
  rw [e]
  generalize (64 : Int) ^ k = P at ih hp
  omega
theorem uval_any (s : ByteArray) (w : World) (h : okU s) (hs : s.size = lenU (at8 s 0)) : Calls Tryz.prog 136 #[.string s] w fun e w' => e = .returned (.int .i32 (valU s (lenU (at8 s 0)) (lenU (at8 s 0)))) /\ K0 w w' := by
 have hb := at8_bd s 0
 have h4 := lenU_le (at8 s 0)
 have hl := h.1
 have inv : ∀ x : Nat, 1 <= x -> x < s.size -> IntKind.i32.wrap ((BitVec.ofInt 32 (IntKind.i32.wrap (valU s s.size x * 2 ^ 6)) ||| BitVec.ofInt 32 (IntKind.i32.wrap (IntKind.u8.wrap ((BitVec.ofInt 8 (at8 s x) &&& BitVec.ofInt 8 63).toNat : Nat)))).toNat : Nat) = valU s s.size (x + 1) := fun x h1 h2 => by
  rw [hs] at h2 ⊢
  have hc := conU_val h x h1 h2
  have hv := val_bd h x h1 (by omega)
  have hv2 : valU s (lenU (at8 s 0)) x < 16777216 := by
   obtain rfl | rfl | rfl : x = 1 \/ x = 2 \/ x = 3 := by omega
   ·have := hv.2; simp at this; omega
   ·have := hv.2; simp at this; omega
   ·have := hv.2; simp at this; omega
  rw [or6 ⟨hv.1, hv2⟩ hc]
  cases x with
  | zero => omega
  | succ x => rfl
 have loop : ∀ r0 : Int, r0 = valU s s.size 1 -> ∃ (I : List Value -> World -> Prop) (m : List Value -> World -> Nat), I [.int .i64 1, .int .i32 r0] w /\ ∀ (x x_1 : Int) (w' : World), I [.int .i64 x, .int .i32 x_1] w' ->
   bsp (decide (x < (s.size : Nat))) ((0 <= x /\ x < (s.size : Nat)) /\ I [.int .i64 (IntKind.i64.wrap (x + 1)), .int .i32 (IntKind.i32.wrap ((BitVec.ofInt 32 (IntKind.i32.wrap (x_1 * 2 ^ 6)) ||| BitVec.ofInt 32 (IntKind.i32.wrap (IntKind.u8.wrap ((BitVec.ofInt 8 (at8 s x.toNat) &&& BitVec.ofInt 8 63).toNat : Nat)))).toNat : Nat))] w' /\ m [.int .i64 (IntKind.i64.wrap (x + 1)), .int .i32 (IntKind.i32.wrap ((BitVec.ofInt 32 (IntKind.i32.wrap (x_1 * 2 ^ 6)) ||| BitVec.ofInt 32 (IntKind.i32.wrap (IntKind.u8.wrap ((BitVec.ofInt 8 (at8 s x.toNat) &&& BitVec.ofInt 8 63).toNat : Nat)))).toNat : Nat))] w' < m [.int .i64 x, .int .i32 x_1] w') (Ending.returned (.int .i32 x_1) = .returned (.int .i32 (valU s (lenU (at8 s 0)) (lenU (at8 s 0)))) /\ K0 w w') := fun r0 hr0 => by
  refine ⟨fun vs w' => ∃ x : Nat, vs = [.int .i64 (x : Int), .int .i32 (valU s s.size x)] /\ 1 <= x /\ x <= s.size /\ w' = w, fun vs _ => (match vs with | .int _ a :: _ => s.size - a.toNat | _ => 0), ⟨1, by rw [hr0]; rfl, by omega, by omega, rfl⟩, ?_⟩
  rintro y r w' ⟨x, hv, h1, h2, rfl⟩
  simp only [List.cons.injEq, Value.int.injEq, true_and, and_true] at hv
  obtain ⟨rfl, rfl⟩ := hv
  rw [Int.toNat_natCast]
  refine bsp_intro (fun hlt => ?_) (fun hge => ?_)
  ·have hlt : x < s.size := by simp at hlt; omega
   rw [inv x h1 hlt, inc64 (by omega)]
   exact ⟨⟨by omega, by omega⟩, ⟨x + 1, rfl, by omega, hlt, rfl⟩, by simp only [Int.toNat_natCast]; omega⟩
  ·have : x = s.size := by simp at hge; omega
   subst this
   exact ⟨by rw [<- hs], .refl _ _⟩
 refine vc_uval s w _ ⟨⟨by omega, by omega⟩, bsp_intro (fun h1 => ?_) (fun h1 => ?_)⟩
 ·have h1 : 1 < s.size := by simp at h1; omega
  refine loop _ ?_
  show _ = v0U s.size (at8 s 0)
  rw [Int.toNat_natCast]
  exact msk hb hs.symm (by omega)
 ·have h1 : s.size = 1 := by simp at h1; omega
  refine loop _ ?_
  show _ = v0U s.size (at8 s 0)
  have h2 : lenU (at8 s 0) = 1 := by omega
  rw [h1, wr32 (by omega)]
  rfl
theorem udec_any (s : ByteArray) (w : World) (h0 : 0 < s.size) (hs : s.size <= 1073741824) : Calls Tryz.prog 115 #[.string s] w fun e w' =>
  (match u8R s with | some (r, n) => e = .returned (.tuple #[.int .i32 r, .int .i64 (n : Nat), .int .i64 0]) | none => ∃ er : Int, er ≠ 0 /\ e = .returned (.tuple #[.int .i32 0, .int .i64 0, .int .i64 er])) /\ K0 w w' := by
 have hne : (s.toList == []) = false := by
  rw [beq_eq_false_iff_ne]
  intro e
  rw [ByteArray.toList_eq] at e
  have := congrArg List.length e
  simp at this
  rw [this] at h0
  exact absurd h0 (by decide)
 refine vc_udec s w _ (bsp_intro (fun h => by rw [hne] at h; cases h) (fun _ => ⟨(umeas_any s w h0 hs).mono fun e w1 ⟨⟨k, b, he, hb, hk, hk2⟩, k1⟩ => ⟨_, _, he, .of_k0 k1, bsp_intro (fun h => ?_) (fun h => ?_)⟩⟩))
 ·have hok := hb.1 h
  have hkl := hk h
  subst hkl
  have hu : u8R s = some (valU s (lenU (at8 s 0)) (lenU (at8 s 0)), lenU (at8 s 0)) := if_pos hok
  rw [hu]
  have hle := hok.2.1
  have hl1 := hok.1
  have hsz : (s.extract 0 (lenU (at8 s 0))).size = lenU (at8 s 0) := by rw [ByteArray.size_extract]; omega
  have e0 : at8 (s.extract 0 (lenU (at8 s 0))) 0 = at8 s 0 := by rw [T0.at8_extract s 0 _ 0 (by omega) hle]
  have hok2 : okU (s.extract 0 (lenU (at8 s 0))) := by
   refine ⟨by rw [e0]; exact hl1, by rw [e0, hsz]; exact Nat.le_refl _, fun i h1 h2 => ?_⟩
   rw [e0] at h2 ⊢
   rw [T0.at8_extract s 0 _ i (by omega) hle, Nat.zero_add]
   exact hok.2.2 i h1 h2
  rw [Int.toNat_natCast]
  refine ⟨⟨by omega, by omega⟩, ⟨(uval_any _ w1 hok2 (by rw [hsz, e0])).mono fun e w2 ⟨he, k2⟩ => ⟨_, he, .of_k0 k2, ?_, k1.trans k2⟩⟩⟩
  rw [e0, val_ext s _ _ hle _ (Nat.le_refl _)]
 ·have hno : ¬ okU s := fun hk => by rw [hb.2 hk] at h; cases h
  have hu : u8R s = none := if_neg hno
  rw [hu]
  refine bsp_intro (fun _ => ⟨⟨6, by decide, rfl⟩, k1⟩) (fun _ => bsp_intro (fun _ => ⟨⟨23, by decide, rfl⟩, k1⟩) (fun _ => ⟨⟨3, by decide, rfl⟩, k1⟩))
end Go.Proofs.YtfacflbmlfbeeaaGreatDoor
namespace Go.Proofs.YtfacflbmlfbeeaaGreatDoor
open Go.RowKit
inductive RN (s : ByteArray) : Nat -> List Int -> Bool -> Prop
 | done {at_ : Nat} (h : s.size <= at_) : RN s at_ [] true
 | bad {at_ : Nat} (h : at_ < s.size) (hu : u8R (s.extract at_ s.size) = none) : RN s at_ [] false
 | step {at_ : Nat} {r : Int} {n : Nat} {l : List Int} {b : Bool} (h : at_ < s.size) (hu : u8R (s.extract at_ s.size) = some (r, n)) (hr : RN s (at_ + n) l b) : RN s at_ (r :: l) b
theorem ext_size (s : ByteArray) (a : Nat) : (s.extract a s.size).size = s.size - a := by rw [ByteArray.size_extract]; omega
theorem rn_ex (s : ByteArray) : ∀ (k a : Nat), s.size - a <= k -> ∃ l b, RN s a l b /\ l.length <= s.size - a
 | 0, a, h => ⟨[], true, .done (by omega), by simp⟩
 | k + 1, a, h => by
  by_cases ha : s.size <= a
  ·exact ⟨[], true, .done ha, by simp⟩
  ·cases hu : u8R (s.extract a s.size) with
   | none => exact ⟨[], false, .bad (by omega) hu, by simp⟩
   | some p =>
    obtain ⟨r, n⟩ := p
    have hn := u8R_pos hu
    rw [ext_size] at hn
    obtain ⟨l, b, h1, h2⟩ := rn_ex s k (a + n) (by omega)
    exact ⟨r :: l, b, .step (by omega) hu h1, by simp; omega⟩
theorem RN.det {s : ByteArray} {a : Nat} {l l' : List Int} {b b' : Bool} (h : RN s a l b) (h' : RN s a l' b') : l = l' /\ b = b' := by
 induction h generalizing l' b' with
 | done h1 =>
  cases h' with
  | done => exact ⟨rfl, rfl⟩
  | bad h2 => omega
  | step h2 => omega
 | bad h1 hu =>
  cases h' with
  | done h2 => omega
  | bad => exact ⟨rfl, rfl⟩
  | step h2 hu2 => rw [hu] at hu2; cases hu2
 | step h1 hu hr ih =>
  cases h' with
  | done h2 => omega
  | bad h2 hu2 => rw [hu] at hu2; cases hu2
  | step h2 hu2 hr2 =>
   rw [hu] at hu2
   cases hu2
   obtain ⟨e1, e2⟩ := ih hr2
   rw [e1, e2]
   exact ⟨rfl, rfl⟩
noncomputable def rnL (s : ByteArray) : List Int := (rn_ex s s.size 0 (by omega)).choose
noncomputable def rnB (s : ByteArray) : Bool := (rn_ex s s.size 0 (by omega)).choose_spec.choose
theorem rn_spec (s : ByteArray) : RN s 0 (rnL s) (rnB s) /\ (rnL s).length <= s.size := by
 have := (rn_ex s s.size 0 (by omega)).choose_spec.choose_spec
 exact ⟨this.1, by have := this.2; unfold rnL; omega⟩
def ctlB (r : Int) : Bool := decide (r <= 31) || decide (r ≥ 127) && decide (r <= 159) || r == 8232 || r == 8233
noncomputable def prtB (s : ByteArray) : Bool := rnB s && !(rnL s).any ctlB
theorem uctl_any (r : Int) (w : World) : Calls Tryz.prog 93 #[.int .i32 r] w fun e w' => e = .returned (.bool (ctlB r)) /\ K0 w w' := vc_uctl r w _ ⟨rfl, .refl _ _⟩
theorem xctl_any (r : Int) (w : World) : Calls Tryz.prog 59 #[.int .i64 r] w fun e w' => e = .returned (.bool (ctlB r)) /\ K0 w w' := by
 refine vc_xctl r w _ ⟨?_, .refl _ _⟩
 have h : decide (r < 32) = decide (r <= 31) := by rw [Bool.eq_iff_iff]; simp; omega
 rw [h]; rfl
theorem ucheck_any (s : ByteArray) (w : World) (hs : s.size <= 1073741824) : Calls Tryz.prog 113 #[.string s] w fun e w' => (∃ a er : Int, e = .returned (.tuple #[.int .i64 a, .int .i64 er]) /\ (er = 0 ↔ rnB s = true)) /\ K0 w w' := by
 have hsp := (rn_spec s).1
 generalize rnB s = B at hsp
 refine vc_ucheck s w _ ?_
 refine ⟨fun vs w' => ∃ (x : Nat) (l : List Int), vs = [.int .i64 (x : Int)] /\ RN s x l B /\ x <= s.size /\ K0 w w', fun vs _ => (match vs with | .int _ a :: _ => s.size - a.toNat | _ => 0), ⟨0, _, rfl, hsp, by omega, .refl _ _⟩, ?_⟩
 rintro y w1 ⟨x, l, hv, hR, hx, k1⟩
 simp only [List.cons.injEq, Value.int.injEq, true_and, and_true] at hv
 subst hv
 rw [Int.toNat_natCast]
 refine bsp_intro (fun hlt => ?_) (fun hge => ?_)
 ·have hlt : x < s.size := by simp at hlt; omega
  refine ⟨⟨by omega, by omega⟩, ⟨(udec_any (s.extract x s.size) w1 (by rw [ext_size]; omega) (by rw [ext_size]; omega)).mono fun e w2 ⟨hd, k2⟩ => ?_⟩⟩
  cases hR with
  | done h => omega
  | bad h hu =>
   rw [hu] at hd
   obtain ⟨er, he0, he⟩ := hd
   refine ⟨_, _, _, he, .of_k0 k2, bsp_intro (fun _ => ⟨⟨_, er, rfl, ⟨fun h => absurd h he0, fun h => by cases h⟩⟩, k1.trans k2⟩) (fun h => by exfalso; simp at h; exact he0 h)⟩
  | step h hu hr =>
   rw [hu] at hd
   have hn := u8R_pos hu
   rw [ext_size] at hn
   refine ⟨_, _, _, hd, .of_k0 k2, bsp_intro (fun h => by simp at h) (fun _ => ?_)⟩
   rw [wr64 (by omega) (by omega)]
   exact ⟨⟨_, _, by rw [<- Int.natCast_add], hr, by omega, k1.trans k2⟩, by show s.size - _ < _; simp only [Int.toNat_natCast]; omega⟩
 ·have hge : s.size <= x := by simp at hge; omega
  refine ⟨⟨0, 0, rfl, ⟨fun _ => ?_, fun _ => rfl⟩⟩, k1⟩
  have := (RN.det hR (.done hge)).2
  exact this
theorem uvalid_any (s : ByteArray) (w : World) (hs : s.size <= 1073741824) : Calls Tryz.prog 91 #[.string s] w fun e w' => e = .returned (.bool (rnB s)) /\ K0 w w' :=
 vc_uvalid s w _ ⟨(ucheck_any s w hs).mono fun e w1 ⟨⟨a, er, he, hb⟩, k1⟩ => ⟨_, _, he, .of_k0 k1, by
  have : (er == 0) = rnB s := by
   cases h : rnB s with
   | true => rw [beq_iff_eq]; exact hb.2 h
   | false => rw [beq_eq_false_iff_ne]; intro e; rw [hb.1 e] at h; cases h
  rw [this], k1⟩⟩
theorem urunes_any (s : ByteArray) (w : World) : Calls Tryz.prog 92 #[.string s] w fun e w' => (∃ Bs, e = .returned (.func (.func 114) #[] #[.pointer (some ⟨Bs, 0, none⟩)]) /\ w'.cell? ⟨Bs, 0, none⟩ = some (.string s) /\ Bs < w'.heap.size) /\ K0 w w' :=
 vc_urunes s w _ (fun n _ hW => ⟨⟨n, rfl, cell_at (hW.cells 0 rfl) rfl, block_lt (hW.cells 0 rfl)⟩, hW.kk rfl⟩)
theorem xlead_any (c : Int) (hc : 0 <= c /\ c <= 255) (w : World) : Calls Tryz.prog 137 #[.int .u8 c] w fun e w' => e = .returned (.tuple #[.int .i64 (leadN c : Nat), .int .i64 (if leadN c = 0 then 0 else v0U (leadN c) c)]) /\ K0 w w' := by
 refine vc_xlead c w _ ?_
 unfold VC_xlead
 rw [wr64 (x := c) (by omega) (by omega), wr64 (x := c - 192) (by omega) (by omega), wr64 (x := c - 224) (by omega) (by omega), wr64 (x := c - 240) (by omega) (by omega)]
 unfold leadN
 refine bsp_intro (fun h => ?_) (fun h => bsp_intro (fun h2 => ?_) (fun h2 => bsp_intro (fun h3 => ?_) (fun h3 => bsp_intro (fun h4 => ?_) (fun h4 => ?_))))
 ·simp at h
  rw [if_pos h]; exact ⟨rfl, .refl _ _⟩
 ·simp at h h2
  rw [if_neg (by omega), if_pos (by omega)]; exact ⟨rfl, .refl _ _⟩
 ·simp at h h2 h3
  rw [if_neg (by omega), if_neg (by omega), if_pos (by omega)]; exact ⟨rfl, .refl _ _⟩
 ·simp at h h2 h3 h4
  rw [if_neg (by omega), if_neg (by omega), if_neg (by omega), if_pos (by omega)]; exact ⟨rfl, .refl _ _⟩
 ·simp at h h2 h3 h4
  rw [if_neg (by omega), if_neg (by omega), if_neg (by omega), if_neg (by omega)]; exact ⟨rfl, .refl _ _⟩
theorem xleast_any (n : Nat) (h1 : 1 <= n) (hn : n <= 4) (w : World) : Calls Tryz.prog 138 #[.int .i64 (n : Int)] w fun e w' => e = .returned (.int .i64 (leastU n)) /\ K0 w w' := by
 refine vc_xleast n w _ (fun n1 W hW => ⟨⟨by omega, by omega⟩, leastU n, ?_, rfl, hW.kk rfl⟩)
 rw [Int.toNat_natCast]
 obtain rfl | rfl | rfl | rfl : n = 1 \/ n = 2 \/ n = 3 \/ n = 4 := by omega
 all_goals exact cell_at (hW.cells 0 rfl) rfl
theorem xmost_any (n : Nat) (h1 : 1 <= n) (hn : n <= 4) (w : World) : Calls Tryz.prog 139 #[.int .i64 (n : Int)] w fun e w' => e = .returned (.int .i64 (mostU n)) /\ K0 w w' := by
 refine vc_xmost n w _ (fun n1 W hW => ⟨⟨by omega, by omega⟩, mostU n, ?_, rfl, hW.kk rfl⟩)
 rw [Int.toNat_natCast]
 obtain rfl | rfl | rfl | rfl : n = 1 \/ n = 2 \/ n = 3 \/ n = 4 := by omega
 all_goals exact cell_at (hW.cells 0 rfl) rfl
theorem leadN_le (c : Int) : leadN c <= 4 := by unfold leadN; (repeat' split) <;> omega
end Go.Proofs.YtfacflbmlfbeeaaGreatDoor
namespace Go.Proofs.YtfacflbmlfbeeaaGreatDoor
open Go.RowKit
theorem v0_bd : ∀ c : Fin 256, leadN (c.val : Int) ≠ 0 -> 0 <= v0U (leadN (c.val : Int)) (c.val : Int) /\ v0U (leadN (c.val : Int)) (c.val : Int) < 128 := by decide +kernel
theorem valK_bd {s : ByteArray} (h0 : leadN (at8 s 0) ≠ 0) : ∀ k, 1 <= k -> (∀ i, 1 <= i -> i < k -> 128 <= at8 s i /\ at8 s i <= 191) -> 0 <= valU s (leadN (at8 s 0)) k /\ valU s (leadN (at8 s 0)) k < 128 * 64 ^ (k - 1)
 | 0, h, _ => by omega
 | 1, _, _ => by
  have hb := at8_bd s 0
  have := v0_bd ⟨(at8 s 0).toNat, by omega⟩
  have e : (((at8 s 0).toNat : Nat) : Int) = at8 s 0 := by omega
  simp only [e] at this
  have h := this h0
  show 0 <= v0U _ _ /\ v0U _ _ < 128 * 64 ^ 0
  simp only [Int.pow_zero]
  omega
 | k + 2, _, hc => by
  have ih := valK_bd h0 (k + 1) (by omega) (fun i h1 h2 => hc i h1 (by omega))
  have hc := hc (k + 1) (by omega) (by omega)
  show 0 <= 64 * valU s _ (k + 1) + at8 s (k + 1) - 128 /\ 64 * valU s _ (k + 1) + at8 s (k + 1) - 128 < 128 * 64 ^ (k + 1)
  have e : (64 : Int) ^ (k + 1) = 64 ^ k * 64 := Int.pow_succ 64 k
  have e2 : k + 1 - 1 = k := rfl
  rw [e2] at ih
  have hp : (1 : Int) <= 64 ^ k := Int.pow_pos (by decide)
  rw [e]
  generalize (64 : Int) ^ k = P at ih hp
  omega
theorem pow64 {k : Nat} (h : k <= 4) : (1 : Int) <= 64 ^ k /\ (64 : Int) ^ k <= 16777216 := by
 obtain rfl | rfl | rfl | rfl | rfl : k = 0 \/ k = 1 \/ k = 2 \/ k = 3 \/ k = 4 := by omega
 all_goals decide
set_option maxHeartbeats 1000000 in
theorem xbegins_any (s : ByteArray) (w : World) (hs0 : 0 < s.size) (hs : s.size <= 1073741824) : Calls Tryz.prog 116 #[.string s] w fun e w' => (∃ (b : Bool) (x y : Int), e = .returned (.tuple #[.bool b, .int .i64 x, .int .i64 y]) /\ (b = true ↔ begP s) /\ (b = true -> x = (leadN (at8 s 0) : Nat) /\ y = valU s (leadN (at8 s 0)) s.size)) /\ K0 w w' := by
 have hb := at8_bd s 0
 have hl4 := leadN_le (at8 s 0)
 refine vc_xbegins s w _ ⟨⟨by omega, by omega⟩, ⟨(xlead_any (at8 s 0) hb w).mono fun e w1 ⟨he, k1⟩ => ⟨_, _, he, .of_k0 k1, bsp_intro (fun h => ?_) (fun h => ?_)⟩⟩⟩
 ·refine ⟨⟨false, 0, 0, rfl, ⟨(fun h => by cases h), fun hk => ?_⟩, fun h => by cases h⟩, k1⟩
  have h1 := hk.1
  have h2 := hk.2.1
  simp at h
  omega
 have hh : leadN (at8 s 0) ≠ 0 /\ s.size <= leadN (at8 s 0) := by simp at h; omega
 rw [if_neg hh.1]
 refine ⟨fun vs w' => ∃ x : Nat, vs = [.int .i64 (x : Int), .int .i64 (valU s (leadN (at8 s 0)) x)] /\ 1 <= x /\ x <= s.size /\ (∀ i, 1 <= i -> i < x -> 128 <= at8 s i /\ at8 s i <= 191) /\ K0 w w',
  fun vs _ => (match vs with | .int _ a :: _ => s.size - a.toNat | _ => 0), ⟨1, rfl, by omega, by omega, (fun i h1 h2 => by omega), k1⟩, ?_⟩
 rintro y z w2 ⟨x, hv, hx1, hxs, hall, k2⟩
 simp only [List.cons.injEq, Value.int.injEq, true_and, and_true] at hv
 obtain ⟨rfl, rfl⟩ := hv
 rw [Int.toNat_natCast]
 have hvb := valK_bd hh.1 x hx1 hall
 have hpw := pow64 (k := x - 1) (by omega)
 refine bsp_intro (fun hlt => ?_) (fun hge => ?_)
 ·have hlt : x < s.size := by simp at hlt; omega
  have hbx := at8_bd s x
  refine ⟨⟨by omega, by omega⟩, gimp_intro fun _ => ⟨by omega, by omega⟩, bsp_intro (fun hc => ?_) (fun hc => ?_)⟩
  ·refine ⟨⟨false, 0, 0, rfl, ⟨(fun h => by cases h), fun hk => ?_⟩, fun h => by cases h⟩, k2⟩
   have := hk.2.2.1 x hx1 hlt
   simp at hc
   omega
  ·have hc : 128 <= at8 s x /\ at8 s x <= 191 := by simp at hc; omega
   refine ⟨⟨by omega, by omega⟩, ?_⟩
   generalize hP : (64 : Int) ^ (x - 1) = P at hvb hpw
   have e1 : IntKind.i64.wrap (IntKind.i64.wrap (IntKind.i64.wrap (64 * valU s (leadN (at8 s 0)) x) + IntKind.i64.wrap (at8 s x)) - 128) = valU s (leadN (at8 s 0)) (x + 1) := by
    rw [wr64 (x := 64 * valU s (leadN (at8 s 0)) x) (by omega) (by omega), wr64 (x := at8 s x) (by omega) (by omega), wr64 (x := 64 * valU s (leadN (at8 s 0)) x + at8 s x) (by omega) (by omega), wr64 (by omega) (by omega)]
    cases x with
    | zero => omega
    | succ x => rfl
   rw [e1, inc64 (by omega)]
   refine ⟨⟨x + 1, rfl, by omega, hlt, fun i h1 h2 => ?_, k2⟩, by simp only [Int.toNat_natCast]; omega⟩
   rcases Nat.lt_or_ge i x with h3 | h3
   ·exact hall i h1 h3
   ·obtain rfl : i = x := by omega
    exact hc
 ·have : x = s.size := by simp at hge; omega
  subst this
  have hcont : contS s := hall
  refine ⟨fun vs w' => ∃ (x : Nat) (hi lo : Int), vs = [.int .i64 (x : Int), .int .i64 hi, .int .i64 lo] /\ s.size <= x /\ x <= leadN (at8 s 0) /\ loU lo (leadN (at8 s 0) - x) = loU (valU s (leadN (at8 s 0)) s.size) (leadN (at8 s 0) - s.size) /\ hiU hi (leadN (at8 s 0) - x) = hiU (valU s (leadN (at8 s 0)) s.size) (leadN (at8 s 0) - s.size) /\
    (0 <= lo /\ lo < 128 * 64 ^ (x - 1)) /\ (0 <= hi /\ hi < 128 * 64 ^ (x - 1)) /\ K0 w w',
   fun vs _ => (match vs with | .int _ a :: _ => leadN (at8 s 0) - a.toNat | _ => 0), ⟨s.size, _, _, rfl, by omega, hh.2, rfl, rfl, hvb, hvb, k2⟩, ?_⟩
  rintro y1 hi lo w3 ⟨x, hi', lo', hv, h1, h2, h3, h4, h5, h6, k3⟩
  simp only [List.cons.injEq, Value.int.injEq, true_and, and_true] at hv
  obtain ⟨rfl, rfl, rfl⟩ := hv
  have hpw2 := pow64 (k := x - 1) (by omega)
  refine bsp_intro (fun hlt => ?_) (fun hge => ?_)
  ·have hlt : x < leadN (at8 s 0) := by simp at hlt; omega
   have e : (64 : Int) ^ (x + 1 - 1) = 64 ^ (x - 1) * 64 := by
    rw [show x + 1 - 1 = (x - 1) + 1 by omega]; exact Int.pow_succ 64 _
   have eN : leadN (at8 s 0) - x = (leadN (at8 s 0) - (x + 1)) + 1 := by omega
   rw [eN] at h3 h4
   have h3 : loU (64 * lo) (leadN (at8 s 0) - (x + 1)) = _ := h3
   have h4 : hiU (64 * hi + 63) (leadN (at8 s 0) - (x + 1)) = _ := h4
   generalize hP : (64 : Int) ^ (x - 1) = P at h5 h6 hpw2 e
   rw [wr64 (x := 64 * hi) (by omega) (by omega), wr64 (x := 64 * hi + 63) (by omega) (by omega), wr64 (x := 64 * lo) (by omega) (by omega), inc64 (by omega)]
   refine ⟨⟨x + 1, 64 * hi + 63, 64 * lo, rfl, by omega, hlt, h3, h4, ?_, ?_, k3⟩, by simp only [Int.toNat_natCast]; omega⟩
   ·rw [e]; omega
   ·rw [e]; omega
  ·have : x = leadN (at8 s 0) := by simp at hge; omega
   subst this
   rw [Nat.sub_self] at h3 h4
   have h3 : lo = _ := h3
   have h4 : hi = _ := h4
   refine ⟨(xleast_any _ (by omega) hl4 w3).mono fun e w4 ⟨he, k4⟩ => ⟨_, he, .of_k0 k4, ⟨(xmost_any _ (by omega) hl4 w4).mono fun e w5 ⟨he, k5⟩ => ⟨_, he, .of_k0 k5, ?_⟩⟩⟩⟩
   have k05 := (k3.trans k4).trans k5
   rw [h3, h4]
   refine bsp_intro (fun hbd => ?_) (fun hbd => ?_)
   ·refine ⟨⟨false, 0, 0, rfl, ⟨(fun h => by cases h), fun hk => ?_⟩, fun h => by cases h⟩, k05⟩
    have := hk.2.2.2
    unfold badU at this
    rw [hbd] at this; cases this
   ·exact ⟨⟨true, _, _, rfl, ⟨fun _ => ⟨hh.1, hh.2, hcont, hbd⟩, fun _ => rfl⟩, fun _ => ⟨rfl, rfl⟩⟩, k05⟩
theorem xfirst_any (s : ByteArray) (w : World) (h0 : 0 < s.size) (hs : s.size <= 1073741824) : Calls Tryz.prog 96 #[.string s] w fun e w' =>
  (match u8R s with | some (r, n) => e = .returned (.tuple #[.int .i64 r, .int .i64 (n : Nat), .int .i64 0]) | none => ∃ er : Int, er ≠ 0 /\ e = .returned (.tuple #[.int .i64 0, .int .i64 0, .int .i64 er])) /\ K0 w w' := by
 have hb := at8_bd s 0
 have s1 : (s.extract 0 1).size = 1 := by rw [ByteArray.size_extract]; omega
 have e1 : at8 (s.extract 0 1) 0 = at8 s 0 := by rw [T0.at8_extract s 0 1 0 (by omega) (by omega)]
 refine vc_xfirst s w _ ⟨⟨by omega, by omega⟩, ⟨(xbegins_any (s.extract 0 1) w (by omega) (by omega)).mono fun e w1 ⟨⟨b, x, y, he, hbe, hxy⟩, k1⟩ => ⟨_, _, _, he, .of_k0 k1, ?_⟩⟩⟩
 rw [beg_one s1, e1] at hbe
 rw [e1] at hxy
 refine bsp_intro (fun h => ?_) (fun h => ?_)
 ·have h : b = false := by simpa using h
  have hno : ¬ okU s := fun hk => by rw [hbe.2 hk.1] at h; cases h
  rw [show u8R s = none from if_neg hno]
  exact ⟨⟨6, by decide, rfl⟩, k1⟩
 have h : b = true := by simpa using h
 have hl := hbe.1 h
 obtain ⟨rfl, _⟩ := hxy h
 have hll := lead_len hb hl
 rw [hll]
 refine bsp_intro (fun h2 => ?_) (fun h2 => ?_)
 ·have h2 : lenU (at8 s 0) <= s.size := by simp at h2; omega
  have hsz : (s.extract 0 (lenU (at8 s 0))).size = lenU (at8 s 0) := by rw [ByteArray.size_extract]; omega
  have e0 : at8 (s.extract 0 (lenU (at8 s 0))) 0 = at8 s 0 := by rw [T0.at8_extract s 0 _ 0 (by omega) h2]
  have hok2 : okU (s.extract 0 (lenU (at8 s 0))) ↔ okU s := by
   unfold okU
   rw [e0, hsz]
   refine ⟨fun ⟨a1, _, a3⟩ => ⟨a1, h2, fun i i1 i2 => ?_⟩, fun ⟨a1, _, a3⟩ => ⟨a1, Nat.le_refl _, fun i i1 i2 => ?_⟩⟩
   ·have := a3 i i1 i2
    rw [T0.at8_extract s 0 _ i (by omega) h2, Nat.zero_add] at this
    exact this
   ·rw [T0.at8_extract s 0 _ i (by omega) h2, Nat.zero_add]
    exact a3 i i1 i2
  rw [Int.toNat_natCast]
  refine ⟨⟨by omega, by omega⟩, ⟨(xbegins_any (s.extract 0 (lenU (at8 s 0))) w1 (by omega) (by omega)).mono fun e w2 ⟨⟨b2, x2, y2, he, hbe2, hxy2⟩, k2⟩ => ⟨_, _, _, he, .of_k0 k2, ?_⟩⟩⟩
  rw [beg_full (by rw [e0]; exact hl) (by rw [hsz, e0]), hok2] at hbe2
  rw [e0, hll, hsz, val_ext s _ _ h2 _ (Nat.le_refl _)] at hxy2
  refine bsp_intro (fun h3 => ?_) (fun h3 => ?_)
  ·rw [show u8R s = some (valU s (lenU (at8 s 0)) (lenU (at8 s 0)), lenU (at8 s 0)) from if_pos (hbe2.1 h3), (hxy2 h3).2]
   exact ⟨rfl, k1.trans k2⟩
  ·have hno : ¬ okU s := fun hk => by rw [hbe2.2 hk] at h3; cases h3
   rw [show u8R s = none from if_neg hno]
   exact ⟨⟨3, by decide, rfl⟩, k1.trans k2⟩
 ·have h2 : s.size < lenU (at8 s 0) := by simp at h2; omega
  have hno : ¬ okU s := fun hk => by have := hk.2.1; omega
  rw [show u8R s = none from if_neg hno]
  refine ⟨(xbegins_any s w1 h0 hs).mono fun e w2 ⟨⟨b2, x2, y2, he, _, _⟩, k2⟩ => ⟨_, _, _, he, .of_k0 k2, bsp_intro (fun _ => ⟨⟨23, by decide, rfl⟩, k1.trans k2⟩) (fun _ => ⟨⟨3, by decide, rfl⟩, k1.trans k2⟩)⟩⟩
end Go.Proofs.YtfacflbmlfbeeaaGreatDoor
namespace Go.Proofs.YtfacflbmlfbeeaaGreatDoor
open Go.RowKit Go.Shelf
attribute [local go_sem] Oper.semAt_some
set_option maxRecDepth 100000 in
set_option maxHeartbeats 4000000 in
theorem runes1_in (n : Nat) (hn : 2 <= n) (l Bs n₀ : Nat) (s : ByteArray) (hs : s.size <= 1073741824) (J Jx : List (Int × Int) -> World -> Prop)
  (hY : ∀ pre x W, J pre W -> pre.length < s.size -> YieldAt Fence.wide (n - 1) Tryz.prog l #[.int .i64 x.1, .int .i32 x.2] W fun e W' =>
   (e = .returned (.bool true) /\ J (pre ++ [x]) W' /\ Below n₀ W W') \/ (e = .returned (.bool false) /\ Jx (pre ++ [x]) W'))
  (W : World) (hJ : AbidesFrom W.heap.size J) (hBs : W.cell? ⟨Bs, 0, none⟩ = some (.string s)) (hB : Bs < n₀) (hn₀ : n₀ <= W.heap.size) (h0 : J [] W) :
  CallsIn Fence.wide n Tryz.prog 114 #[.func (.yield l) #[] #[], .pointer (some ⟨Bs, 0, none⟩)] W fun e W' => (∃ v, e = .returned v) /\
   ((∃ ys : List (Int × Int), ys.map (·.2) = rnL s /\ J ys W') \/ (∃ pre : List (Int × Int), pre.map (·.2) <+: rnL s /\ Jx pre W')) := by
 have hsp := rn_spec s
 generalize rnL s = L at hsp ⊢
 generalize rnB s = B at hsp
 refine callsIn_of_wp Tryz.func114 rfl trivial ?_ rfl
 simp only [Tryz.ntmps114, List.size_toArray, List.length_cons, List.length_nil, Nat.reduceAdd, Nat.reduceSub, Array.replicate_succ, Array.replicate_zero, List.push_toArray, List.append_toArray, List.nil_append, List.cons_append]
 gi_wp2
 gi_loopw [3] (fun i wr => ∃ (x : Nat) (pre : List (Int × Int)) (l' : List Int), i = .int .i64 (x : Int) /\ pre.map (·.2) ++ l' = L /\ RN s x l' B /\ pre.length <= x /\ x <= s.size /\ J pre wr /\ Below n₀ W wr /\ W.heap.size <= wr.heap.size)
  (fun i _ => s.size - (intOf i).toNat)
 case atStart => exact ⟨0, [], _, rfl, rfl, hsp.1, by simp, by omega, h0, Below.refl _ _, Nat.le_refl _⟩
 case round =>
  obtain ⟨x, pre, l', rfl, hpl, hR, hpx, hxs, hJs, hnx, hsz⟩ := hrel
  have hcs : wr.cell? ⟨Bs, 0, none⟩ = some (.string s) := (hnx.cell (p := ⟨Bs, 0, none⟩) hB).trans hBs
  by_cases hlt : x < s.size
  ·gi_wp2
   refine ⟨trivial, fun _ => (by omega), (callsIn_wide.2 (udec_any (s.extract x s.size) _ (by rw [ext_size]; omega) (by rw [ext_size]; omega))).mono ?_⟩
   rintro e w2 ⟨hd, k2⟩
   cases hR with
   | done h => omega
   | bad h hu =>
    rw [hu] at hd
    obtain ⟨er, he0, rfl⟩ := hd
    have hne : (er != 0) = true := by simp [he0]
    rw [List.append_nil] at hpl
    have hJ2 : J pre w2 := hJ _ _ _ none hJs ⟨k2.os, k2.tape, k2.output, k2.size, fun i hi _ => k2.block i hi (fun h => h)⟩ (fun r e => by cases e)
    gi_wp2
    refine ⟨fun _ h => (by cases h), ?_⟩
    gi_wp2
    refine bodyPost_ret (results_none rfl _ _ _) rfl ?_
    exact ⟨⟨_, rfl⟩, .inl ⟨pre, hpl, hJ2⟩⟩
   | @step _ r m l2 _ h hu hr =>
    rw [hu] at hd
    subst hd
    have hm := u8R_pos hu
    rw [ext_size] at hm
    have hJ2 : J pre w2 := hJ _ _ _ none hJs ⟨k2.os, k2.tape, k2.output, k2.size, fun i hi _ => k2.block i hi (fun h => h)⟩ (fun r e => by cases e)
    obtain ⟨fn, tmps, assign, body, hy, hRo⟩ := hY pre ((x : Int), r) w2 hJ2 (by omega)
    dsimp only at hy
    gi_wp2
    refine ⟨fun _ => (by omega), hRo.mono ?_⟩
    have hz2 := k2.size
    rintro e W3 (⟨rfl, hJ3, hk3⟩ | ⟨rfl, hJx3⟩)
    ·gi_wp2
     go_roundw
     case rel => exact ⟨x + m, pre ++ [((x : Int), r)], l2, by simp, by rw [List.map_append, List.append_assoc]; exact hpl, hr, by simp; omega, by omega, hJ3, (hnx.trans ⟨k2.os, k2.tape, k2.output, k2.size, fun i hi => k2.block i (by omega) (fun h => h)⟩).trans hk3, by have := hk3.size; omega⟩
     case measure => simp [intOf]; omega
    ·gi_wp2
     refine bodyPost_ret (results_none rfl _ _ _) rfl ?_
     exact ⟨⟨_, rfl⟩, .inr ⟨pre ++ [((x : Int), r)], by rw [List.map_append, <- hpl]; exact ⟨l2, by simp⟩, hJx3⟩⟩
  ·obtain rfl : x = s.size := by omega
   have hl := (RN.det hR (.done (Nat.le_refl _))).1
   subst hl
   rw [List.append_nil] at hpl
   gi_wp2
   go_end0
   exact ⟨⟨_, rfl⟩, .inl ⟨pre, hpl, hJs⟩⟩
theorem runes_stops (n : Nat) (hn : 2 <= n) (Bs n₀ : Nat) (s : ByteArray) (hs : s.size <= 1073741824) (w : World) (hBw : Bs < w.heap.size) (hB : Bs < n₀) (hn₀ : n₀ <= w.heap.size) (hc : w.cell? ⟨Bs, 0, none⟩ = some (.string s)) :
  SeqStopsK Fence.wide n Tryz.prog 114 #[.pointer (some ⟨Bs, 0, none⟩)] (fun x : Int × Int => #[.int .i64 x.1, .int .i32 x.2]) (Below n₀) (fun ys => ys.map (·.2) = rnL s) (fun pre => pre.map (·.2) <+: rnL s) s.size w := fun l J Jx W hW hJ _ hY h0 =>
 runes1_in n hn l Bs n₀ s hs J Jx hY W hJ ((hW.cell (p := ⟨Bs, 0, none⟩) hBw).trans hc) hB (Nat.le_trans hn₀ hW.size) h0
set_option maxRecDepth 100000 in
set_option maxHeartbeats 4000000 in
theorem print_in (n : Nat) (hn : 4 <= n) (s : ByteArray) (hs : s.size <= 1073741824) (w : World) :
  CallsIn Fence.wide n Tryz.prog 52 #[.string s] w fun e W' => e = .returned (.bool (prtB s)) /\ Below w.heap.size w W' := by
 have h1 : 1 <= n := by omega
 refine callsIn_of_wp_marks Tryz.func52 rfl trivial ?_ rfl
 simp only [Tryz.ntmps52, List.size_toArray, List.length_cons, List.length_nil, Nat.reduceAdd, Nat.reduceSub, Array.replicate_succ, Array.replicate_zero, List.push_toArray, List.append_toArray, List.nil_append, List.cons_append]
 gi_wp2
 refine ⟨trivial, (callsIn_wide.2 (uvalid_any s _ hs)).mono ?_⟩
 rintro e w1 ⟨rfl, k1⟩
 have hb1 : w1.heap[w.heap.size]? = some (.cells #[.bool false] 4 (0, 0)) := (k1.block _ (by simp) (fun h => h)).trans (block_alloc w _)
 have hk01 : K0 w w1 := ((Kp.refl _ w).alloc _).trans k1
 have hc1 := cell_block hb1 0
 have hf1 : w1.frozen? ⟨w.heap.size, 0, none⟩ = false := frozen_block hb1 _
 simp only [List.getElem?_toArray, List.getElem?_cons_zero] at hc1
 have hp0 : rnB s = false -> prtB s = false := fun h => by unfold prtB; rw [h]; rfl
 cases hv : rnB s with
 | false =>
  gi_wp2
  have hc2 : (w1.setCell ⟨w.heap.size, 0, none⟩ (.bool false)).cell? ⟨w.heap.size, 0, none⟩ = some (.bool false) := World.cell?_setCell_same' _ _ _ (by rw [hc1]; rfl)
  refine ⟨.bool false, ?_, by rw [hp0 hv], ?_⟩
  ·simp [results, Tryz.f52, go_sem, hc2]
  ·exact (⟨hk01.os, hk01.tape, hk01.output, hk01.size, fun i hi => hk01.block i hi (fun h => h)⟩ : Below w.heap.size w w1).setCell (p := ⟨w.heap.size, 0, none⟩) (Nat.le_refl _) _
 | true =>
  gi_wp2
  refine ⟨trivial, (callsIn_wide.2 (urunes_any s _)).mono ?_⟩
  rintro e w2 ⟨⟨Bs, rfl, hcb, hBl⟩, k2⟩
  have hb2 : w2.heap[w.heap.size]? = some (.cells #[.bool false] 4 (0, 0)) := k2.blk hb1 (fun h => h)
  have hk02 := hk01.trans k2
  have hB2 : Below w.heap.size w w2 := ⟨hk02.os, hk02.tape, hk02.output, hk02.size, fun i hi => hk02.block i hi (fun h => h)⟩
  gi_wp2
  refine wpIn_rangeFunc_ownG rfl h1 (gf := 114) (lb := #[.pointer (some ⟨Bs, 0, none⟩)]) rfl trivial (enters_of Tryz.func114 (by kernel_rfl) rfl)
   (runes_stops (n - 1) (by omega) Bs w2.heap.size s hs w2 hBl hBl (Nat.le_refl _) hcb) belowK_t (belowK_b (Nat.le_refl _)) (Below.refl _ _) (fun _ => rfl)
   (fun pre W => Boxed W w.heap.size 4 (.bool false) /\ (∀ y ∈ pre, ctlB y.2 = false) /\ Below w.heap.size w W /\ Below w2.heap.size w2 W)
   (fun c pre W => c = .ret /\ (∃ y ∈ pre, ctlB y.2 = true) /\ Boxed W w.heap.size 4 (.bool false) /\ Below w.heap.size w W)
   (OwnFrom.and (Own.from (boxed_own _ _ (fun _ => .bool false)) _) (OwnFrom.and (ownFrom_pure _ _) (OwnFrom.and (ownFrom_below (Nat.le_refl _) (hk02.size)) (ownFrom_below (Nat.le_refl _) (Nat.le_refl _)))))
   (fun c => OwnFrom.and (ownFrom_pure _ _) (OwnFrom.and (ownFrom_pure _ _) (OwnFrom.and (Own.from (boxed_own _ _ (fun _ => .bool false)) _) (ownFrom_below (Nat.le_refl _) (hk02.size)))))
   ⟨hb2, (fun y hy => by cases hy), hB2, Below.refl _ _⟩
   (fun x => { tmps := #[.string s, undef, .pointer (some ⟨w.heap.size, 0, none⟩), undef, .int .i32 x.2, .string s, .bool true, .bool false, .string s, .func (.func 114) #[] #[.pointer (some ⟨Bs, 0, none⟩)], .int .i64 x.1, .int .i32 x.2, undef, undef], defers := [] }) ?assign ?body ?done ?stop
  case assign =>
   intro l x W K hK
   gi_wp2
   exact hK
  case body =>
   rintro l pre x W ⟨hbx, hno, hB, hBz⟩ hlt
   have hcx := hbx.cell
   have hfx := hbx.frozen
   gi_wp2
   refine ⟨trivial, fun _ => (by omega), (((callsIn_wide (n := n - 1 - 1 - 1)).2 (uctl_any x.2 W)).inRound l).mono ?_⟩
   rintro e W2 ⟨rfl, k3⟩
   have hbx2 : Boxed W2 w.heap.size 4 (.bool false) := k3.blk hbx (fun h => h)
   have hcx2 := hbx2.cell
   have hfx2 := hbx2.frozen
   have hkf : KeepsFrom w2.heap.size W W2 := ⟨k3.size, fun k o _ hk _ => k3.blk hk (fun h => h)⟩
   have hBW : ∀ m, m <= W.heap.size -> Below m W W2 := fun m hm => ⟨k3.os, k3.tape, k3.output, k3.size, fun i hi => k3.block i (by omega) (fun h => h)⟩
   have hBs2 := hB.size
   cases hct : ctlB x.2 with
   | true =>
    gi_wp2
    exact ⟨hkf.trans ((KeepsOthers.setCell _ _ _).from _), rfl, ⟨x, by simp, hct⟩, hbx2.set _, (hB.trans (hBW _ hBs2)).setCell (p := ⟨w.heap.size, 0, none⟩) (Nat.le_refl _) _⟩
   | false =>
    gi_wp2
    have hle : w2.heap.size <= W.heap.size := hBz.size
    exact ⟨hkf, hBW _ hle, hbx2, fun y hy => by
     rcases List.mem_append.1 hy with h | h
     ·exact hno y h
     ·simp at h; subst h; exact hct, hB.trans (hBW _ hBs2), hBz.trans (hBW _ hle)⟩
  case done =>
   rintro D ys W hD hys ⟨hbx, hno, hB, _⟩ hK
   have hcx := hbx.cell
   have hfx := hbx.frozen
   gi_wp2
   have hK' := (KeepsOthers.setCell W ⟨w.heap.size, 0, none⟩ (.bool true)).same D _ hK rfl
   have hp : prtB s = true := by
    unfold prtB
    rw [hv, Bool.true_and, <- hys]
    simp only [Bool.not_eq_true', List.any_eq_false, List.mem_map]
    rintro r ⟨y, hy, rfl⟩
    rw [hno y hy]; decide
   have hc5 := Go.cell_kept (World.cell?_setCell_same' W ⟨w.heap.size, 0, none⟩ (.bool true) (by rw [hcx]; rfl)) (grownBy_putObj' _ D (.deferred none)) (fun r e => by cases e; exact ⟨_, hK', rfl⟩)
   refine ⟨by simp, .inl ⟨_, _, rfl, run_takeDeferred hK', ?_⟩⟩
   refine ⟨.bool true, ?_, by rw [hp], (hB.setCell (p := ⟨w.heap.size, 0, none⟩) (Nat.le_refl _) _).trans (belowK_b (w := w) (Nat.le_refl _) _ D _ _ (by have := hk02.size; omega) hK' rfl rfl)⟩
   simp [results, Tryz.f52, go_sem, hc5]
  case stop =>
   rintro D c pre W hD hpre ⟨rfl, hy, hbx, hB⟩ hK
   have hcx := hbx.cell
   gi_wp2
   have hp : prtB s = false := by
    obtain ⟨y, hy1, hy2⟩ := hy
    unfold prtB
    rw [hv, Bool.true_and, Bool.not_eq_false', List.any_eq_true]
    exact ⟨y.2, hpre.subset (List.mem_map.2 ⟨y, hy1, rfl⟩), hy2⟩
   have hc5 := Go.cell_kept hcx (grownBy_putObj' _ D (.deferred none)) (fun r e => by cases e; exact ⟨_, hK, rfl⟩)
   refine ⟨by simp, .inl ⟨_, _, rfl, run_takeDeferred hK, ?_⟩⟩
   refine ⟨.bool false, ?_, by rw [hp], hB.trans (belowK_b (w := w) (Nat.le_refl _) _ D _ _ (by have := hk02.size; omega) hK rfl rfl)⟩
   simp [results, Tryz.f52, go_sem, hc5]
theorem print_any (s : ByteArray) (w : World) (hs : s.size <= 1073741824) : Calls Tryz.prog 52 #[.string s] w fun e w' => e = .returned (.bool (prtB s)) /\ K0 w w' :=
 (callsIn_wide.1 (print_in 4 (by omega) s hs w)).mono fun _ _ ⟨he, hb⟩ => ⟨he, hb.os, hb.tape, hb.output, hb.size, fun i hi _ => hb.block i hi⟩
end Go.Proofs.YtfacflbmlfbeeaaGreatDoor
namespace Go.Proofs.YtfacflbmlfbeeaaGreatDoor
set_option maxRecDepth 100000
set_option linter.unusedVariables false
def VC_release (b : Nat) (i : Nat -> Int) (s : ByteArray) (a : Nat -> Int) (now : Int) (w : World) (R : Ending -> World -> Prop) : Prop := ∀ (n n_1 : Nat) (W : World), Loc w.heap.size [Blk.mk n_1 45 (arrI .u8 a 16 0) 2, Blk.mk n 32 (arrI .u8 i 32 0) 2] w W -> CallsS Tryz.prog 48 #[.pointer (some (Addr.mk b 0 none)), .int .i64 now] W fun (e : Ending) (w' : World) => ∃ (x : Int), e = .returned (.int .i64 x) /\ KeptL [n_1, n] W w' /\ bsp (x != 0) (R (.returned (.int .i64 x)) w') (∀ (n_2 : Nat) (W : World), Loc w.heap.size [Blk.mk n_2 103 (arrI .u8 i 32 0 ++ [Value.string s]) (wrM 2), Blk.mk n_1 45 (arrI .u8 a 16 0) 0, Blk.mk n 32 (arrI .u8 i 32 0) 0] w' W -> ∃ (S : World -> Prop), S W /\ ∃ (x : Option Nat), (∀ (w' : World), S w' -> w'.cell? (Addr.mk b (0 + 4) none) = some (.map x)) /\ ∃ (f : Nat -> Int) (x_1 : ByteArray), (∀ (w' : World), S w' -> AtL w' n_2 0
 (arrI .u8 f 32 0 ++ [Value.string x_1])) /\ ∃ (f_1 : Nat -> Int) (x_2 : ByteArray), ∃ (x_3 : ByteArray) (x_4 : Int), ∃ (x_5 : Int) (f_2 : Nat -> Int), ∃ (x_6 : Int) (x_7 : ByteArray), ∃ (x_8 : Bool) (f_3 : Nat -> Int), ∃ (x_9 : Int) (b_1 : Bool), (∀ (w' : World), S w' -> LookP Tryz.prog 96 (.map x) (.agg (arrI .u8 f 32 0 ++ [Value.string x_1]).toArray) true (.tuple #[.agg (arrI .u8 f_1 32 0 ++ ([Value.string x_2, .string x_3, .int .i64 x_4, .int .i64 x_5] ++ arrI .u8 f_2 16 0 ++ ([Value.int .i64 x_6, .string x_7, .bool x_8] ++ arrI .u8 f_3 16 0 ++ [Value.int .i64 x_9]))).toArray, .bool b_1]) w') /\ ∀ (n_3 : Nat) (w1 : World), NewB W (Obj.cells #[.int .u8 0, .int .u8 0, .int .u8 0, .int .u8 0, .int .u8 0, .int .u8 0, .int .u8 0, .int .u8 0, .int .u8 0, .int .u8 0, .int .u8 0, .int .u8 0, .int .u8 0, .int .u8 0, .int .u8 0, .int .u8 0, .int .u8 0, .int .u8 0,
 .int .u8 0, .int .u8 0, .int .u8 0, .int .u8 0, .int .u8 0, .int .u8 0, .int .u8 0, .int .u8 0, .int .u8 0, .int .u8 0, .int .u8 0, .int .u8 0, .int .u8 0, .int .u8 0, .string (ByteArray.mk #[]), .string (ByteArray.mk #[]), .int .i64 0, .int .i64 0, .int .u8 0, .int .u8 0, .int .u8 0, .int .u8 0, .int .u8 0, .int .u8 0, .int .u8 0, .int .u8 0, .int .u8 0, .int .u8 0, .int .u8 0, .int .u8 0, .int .u8 0, .int .u8 0, .int .u8 0, .int .u8 0, .int .i64 0, .string (ByteArray.mk #[]), .bool false, .int .u8 0, .int .u8 0, .int .u8 0, .int .u8 0, .int .u8 0, .int .u8 0, .int .u8 0, .int .u8 0, .int .u8 0, .int .u8 0, .int .u8 0, .int .u8 0, .int .u8 0, .int .u8 0, .int .u8 0, .int .u8 0, .int .i64 0] 107) n_3 w1 -> S w1 /\ WrL w1 n_3 0 72 /\ ∀ (w1_1 : World), PutB w1 n_3 0 (arrI .u8 f_1 32 0 ++ ([Value.string x_2,
 .string x_3, .int .i64 x_4, .int .i64 x_5] ++ arrI .u8 f_2 16 0 ++ ([Value.int .i64 x_6, .string x_7, .bool x_8] ++ arrI .u8 f_3 16 0 ++ [Value.int .i64 x_9]))) w1_1 -> KeptL [n_2, n_1, n] W w1_1 /\ ∃ (x : Int), gimp (!!b_1) (w1_1.cell? (Addr.mk n_3 (0 + 35) none) = some (.int .i64 x)) /\ bsp (!b_1 || x != 0) (R (.returned (.int .i64 8)) w1_1) (∃ (x : Bool) (f : Nat -> Int) (x_10 : Int), AtL w1_1 n_3 (0 + 54) ([Value.bool x] ++ arrI .u8 f 16 0 ++ [Value.int .i64 x_10]) /\ CallsS Tryz.prog 81 #[.agg ([Value.bool x] ++ arrI .u8 f 16 0 ++ [Value.int .i64 x_10]).toArray, .int .i64 now] w1_1 fun (e : Ending) (w' : World) => ∃ (x : Bool), e = .returned (.bool x) /\ KeptL [n_2, n_1, n] w1_1 w' /\ ∃ (f : Nat -> Int), gimp (!!x) (AtL w' n_3 (0 + 55) (arrI .u8 f 16 0)) /\ ∃ (r : Bool), gimp (!!x) (EqP Tryz.prog 45 (.agg (arrI .u8 f 16 0).toArray) (.agg (arrI .u8 a 16 0).toArray) r) /\
 bsp (!x || !r) (R (.returned (.int .i64 10)) w') (WrL w' n_3 (0 + 54) 18 /\ ∀ (w1 : World), PutB w' n_3 (0 + 54) [Value.bool false, .int .u8 0, .int .u8 0, .int .u8 0, .int .u8 0, .int .u8 0, .int .u8 0, .int .u8 0, .int .u8 0, .int .u8 0, .int .u8 0, .int .u8 0, .int .u8 0, .int .u8 0, .int .u8 0, .int .u8 0, .int .u8 0, .int .i64 0] w1 -> KeptL [n_2, n_1, n] w' w1 /\ ∃ (x : Option Nat), (∀ (W : World), Loc w.heap.size [Blk.mk n_2 103 (arrI .u8 i 32 0 ++ [Value.string s]) 0, Blk.mk n_1 45 (arrI .u8 a 16 0) 0, Blk.mk n 32 (arrI .u8 i 32 0) 0] w1 W -> W.cell? (Addr.mk b (0 + 4) none) = some (.map x)) /\ ∃ (f : Nat -> Int) (x_11 : ByteArray), ∃ (x_12 : ByteArray) (x_13 : Int), ∃ (x_14 : Int) (f_4 : Nat -> Int), ∃ (x_15 : Int) (x_16 : ByteArray), ∃ (x_17 : Bool) (f_5 : Nat -> Int) (x_18 : Int), (∀ (W : World), Loc w.heap.size [Blk.mk n_2 103
 (arrI .u8 i 32 0 ++ [Value.string s]) 0, Blk.mk n_1 45 (arrI .u8 a 16 0) 0, Blk.mk n 32 (arrI .u8 i 32 0) 0] w1 W -> AtL W n_3 0 (arrI .u8 f 32 0 ++ ([Value.string x_11, .string x_12, .int .i64 x_13, .int .i64 x_14] ++ arrI .u8 f_4 16 0 ++ ([Value.int .i64 x_15, .string x_16, .bool x_17] ++ arrI .u8 f_5 16 0 ++ [Value.int .i64 x_18])))) /\ ∀ (W : World), Loc w.heap.size [Blk.mk n_2 103 (arrI .u8 i 32 0 ++ [Value.string s]) 0, Blk.mk n_1 45 (arrI .u8 a 16 0) 0, Blk.mk n 32 (arrI .u8 i 32 0) 0] w1 W -> ∃ (w1 : World), UpdP Tryz.prog 96 (.map x) (.agg (arrI .u8 i 32 0 ++ [Value.string s]).toArray) (.agg (arrI .u8 f 32 0 ++ ([Value.string x_11, .string x_12, .int .i64 x_13, .int .i64 x_14] ++ arrI .u8 f_4 16 0 ++ ([Value.int .i64 x_15, .string x_16, .bool x_17] ++ arrI .u8 f_5 16 0 ++ [Value.int .i64 x_18]))).toArray) W w1 /\ KeptL [n_2, n_1, n] W w1 /\ R (.returned (.int .i64 0)) w1)))
theorem vc_release (b : Nat) (i : Nat -> Int) (s : ByteArray) (a : Nat -> Int) (now : Int) (w : World) (R : Ending -> World -> Prop) (h : VC_release b i s a now w R) : Calls Tryz.prog 43 ([Value.pointer (some { block := b, off := 0 }), .agg (arrI .u8 i 32 0).toArray, .string s, .agg (arrI .u8 a 16 0).toArray, .int .i64 now] : List Value).toArray w R :=
 calls_of_exec2' (loops := []) (tails := [(5, 9), (11, 6)]) (joins := []) (boxes := []) (rngs := []) (c := Tryz.f43.body.getD .skip) pur1_ok Tryz.func43 (by kernel_rfl) (by kernel_rfl) h
def VC_holder_ (b : Nat) (i : Nat -> Int) (s : ByteArray) (now : Int) (w : World) (R : Ending -> World -> Prop) : Prop := ∀ (n n_1 : Nat) (W : World), Loc w.heap.size [Blk.mk n_1 45 [Value.int .u8 0, .int .u8 0, .int .u8 0, .int .u8 0, .int .u8 0, .int .u8 0, .int .u8 0, .int .u8 0, .int .u8 0, .int .u8 0, .int .u8 0, .int .u8 0, .int .u8 0, .int .u8 0, .int .u8 0, .int .u8 0] 2, Blk.mk n 32 (arrI .u8 i 32 0) 2] w W -> CallsS Tryz.prog 48 #[.pointer (some (Addr.mk b 0 none)), .int .i64 now] W fun (e : Ending) (w' : World) => ∃ (x : Int), e = .returned (.int .i64 x) /\ KeptL [n_1, n] W w' /\ bsp (x != 0) (∀ (W : World), Loc w.heap.size [Blk.mk n_1 45 [Value.int .u8 0, .int .u8 0, .int .u8 0, .int .u8 0, .int .u8 0, .int .u8 0, .int .u8 0, .int .u8 0, .int .u8 0, .int .u8 0, .int .u8 0, .int .u8 0, .int .u8 0, .int .u8 0, .int .u8 0, .int .u8 0] (wrM 0), Blk.mk n 32 (arrI .u8 i 32 0) 0]
 w' W -> R (.returned (.tuple #[.agg #[.int .u8 0, .int .u8 0, .int .u8 0, .int .u8 0, .int .u8 0, .int .u8 0, .int .u8 0, .int .u8 0, .int .u8 0, .int .u8 0, .int .u8 0, .int .u8 0, .int .u8 0, .int .u8 0, .int .u8 0, .int .u8 0], .bool false])) W) (∀ (W : World), Loc w.heap.size [Blk.mk n_1 45 [Value.int .u8 0, .int .u8 0, .int .u8 0, .int .u8 0, .int .u8 0, .int .u8 0, .int .u8 0, .int .u8 0, .int .u8 0, .int .u8 0, .int .u8 0, .int .u8 0, .int .u8 0, .int .u8 0, .int .u8 0, .int .u8 0] 0, Blk.mk n 32 (arrI .u8 i 32 0) 0] w' W -> ∃ (S : World -> Prop), S W /\ ∃ (x : Option Nat), (∀ (w' : World), S w' -> w'.cell? (Addr.mk b (0 + 4) none) = some (.map x)) /\ ∃ (f : Nat -> Int), (∀ (w' : World), S w' -> AtL w' n 0 (arrI .u8 f 32 0)) /\ ∃ (f_1 : Nat -> Int) (x_1 : ByteArray), ∃ (x_2 : ByteArray) (x_3 : Int), ∃ (x_4 : Int) (f_2 : Nat -> Int), ∃ (x_5 : Int) (x_6 : ByteArray),
 ∃ (x_7 : Bool) (f_3 : Nat -> Int) (x_8 : Int), (∀ (w' : World), S w' -> LookP Tryz.prog 96 (.map x) (.agg (arrI .u8 f 32 0 ++ [Value.string s]).toArray) false (.agg (arrI .u8 f_1 32 0 ++ ([Value.string x_1, .string x_2, .int .i64 x_3, .int .i64 x_4] ++ arrI .u8 f_2 16 0 ++ ([Value.int .i64 x_5, .string x_6, .bool x_7] ++ arrI .u8 f_3 16 0 ++ [Value.int .i64 x_8]))).toArray) w') /\ ∀ (n_2 : Nat) (w1 : World), NewB W (Obj.cells #[.int .u8 0, .int .u8 0, .int .u8 0, .int .u8 0, .int .u8 0, .int .u8 0, .int .u8 0, .int .u8 0, .int .u8 0, .int .u8 0, .int .u8 0, .int .u8 0, .int .u8 0, .int .u8 0, .int .u8 0, .int .u8 0, .int .u8 0, .int .u8 0, .int .u8 0, .int .u8 0, .int .u8 0, .int .u8 0, .int .u8 0, .int .u8 0, .int .u8 0, .int .u8 0, .int .u8 0, .int .u8 0, .int .u8 0, .int .u8 0, .int .u8 0, .int .u8 0, .string (ByteArray.mk #[]),
 .string (ByteArray.mk #[]), .int .i64 0, .int .i64 0, .int .u8 0, .int .u8 0, .int .u8 0, .int .u8 0, .int .u8 0, .int .u8 0, .int .u8 0, .int .u8 0, .int .u8 0, .int .u8 0, .int .u8 0, .int .u8 0, .int .u8 0, .int .u8 0, .int .u8 0, .int .u8 0, .int .i64 0, .string (ByteArray.mk #[]), .bool false, .int .u8 0, .int .u8 0, .int .u8 0, .int .u8 0, .int .u8 0, .int .u8 0, .int .u8 0, .int .u8 0, .int .u8 0, .int .u8 0, .int .u8 0, .int .u8 0, .int .u8 0, .int .u8 0, .int .u8 0, .int .u8 0, .int .i64 0] 107) n_2 w1 -> S w1 /\ WrL w1 n_2 0 72 /\ ∀ (w1_1 : World), PutB w1 n_2 0 (arrI .u8 f_1 32 0 ++ ([Value.string x_1, .string x_2, .int .i64 x_3, .int .i64 x_4] ++ arrI .u8 f_2 16 0 ++ ([Value.int .i64 x_5, .string x_6, .bool x_7] ++ arrI .u8 f_3 16 0 ++ [Value.int .i64 x_8]))) w1_1 -> KeptL [n_1, n] W w1_1 /\ ∃ (x : Bool) (f : Nat -> Int) (x_9 : Int), AtL w1_1 n_2 (0 + 54)
 ([Value.bool x] ++ arrI .u8 f 16 0 ++ [Value.int .i64 x_9]) /\ CallsS Tryz.prog 81 #[.agg ([Value.bool x] ++ arrI .u8 f 16 0 ++ [Value.int .i64 x_9]).toArray, .int .i64 now] w1_1 fun (e : Ending) (w' : World) => ∃ (x : Bool), e = .returned (.bool x) /\ KeptL [n_1, n] w1_1 w' /\ bsp (!x) (∀ (W : World), Loc w.heap.size [Blk.mk n_1 45 [Value.int .u8 0, .int .u8 0, .int .u8 0, .int .u8 0, .int .u8 0, .int .u8 0, .int .u8 0, .int .u8 0, .int .u8 0, .int .u8 0, .int .u8 0, .int .u8 0, .int .u8 0, .int .u8 0, .int .u8 0, .int .u8 0] (wrM 0), Blk.mk n 32 (arrI .u8 i 32 0) 0] w' W -> R (.returned (.tuple #[.agg #[.int .u8 0, .int .u8 0, .int .u8 0, .int .u8 0, .int .u8 0, .int .u8 0, .int .u8 0, .int .u8 0, .int .u8 0, .int .u8 0, .int .u8 0, .int .u8 0, .int .u8 0, .int .u8 0, .int .u8 0, .int .u8 0], .bool false])) W) (∃ (f : Nat -> Int), AtL w' n_2 (0 + 55) (arrI .u8 f 16 0) /\
 ∀ (W : World), Loc w.heap.size [Blk.mk n_1 45 (arrI .u8 f 16 0) (wrM 0), Blk.mk n 32 (arrI .u8 i 32 0) 0] w' W -> R (.returned (.tuple #[.agg (arrI .u8 f 16 0).toArray, .bool true])) W))
theorem vc_holder_ (b : Nat) (i : Nat -> Int) (s : ByteArray) (now : Int) (w : World) (R : Ending -> World -> Prop) (h : VC_holder_ b i s now w R) : Calls Tryz.prog 41 ([Value.pointer (some { block := b, off := 0 }), .agg (arrI .u8 i 32 0).toArray, .string s, .int .i64 now] : List Value).toArray w R :=
 calls_of_exec2' (loops := []) (tails := [(3, 8)]) (joins := []) (boxes := []) (rngs := []) (c := Tryz.f41.body.getD .skip) pur1_ok Tryz.func41 (by kernel_rfl) (by kernel_rfl) h
def VC_reject (b : Nat) (i : Nat -> Int) (s : ByteArray) (a : Nat -> Int) (rs : ByteArray) (now : Int) (w : World) (R : Ending -> World -> Prop) : Prop := ∀ (n n_1 : Nat) (W : World), Loc w.heap.size [Blk.mk n_1 45 (arrI .u8 a 16 0) 2, Blk.mk n 32 (arrI .u8 i 32 0) 2] w W -> CallsS Tryz.prog 48 #[.pointer (some (Addr.mk b 0 none)), .int .i64 now] W fun (e : Ending) (w' : World) => ∃ (x : Int), e = .returned (.int .i64 x) /\ KeptL [n_1, n] W w' /\ bsp (x != 0) (R (.returned (.int .i64 x)) w') (bsp (decide ((↑rs.size : Int) > 200)) (R (.returned (.int .i64 5)) w') (CallsS Tryz.prog 52 #[.string rs] w' fun (e : Ending) (w'_1 : World) => ∃ (x : Bool), e = .returned (.bool x) /\ KeptL [n_1, n] w' w'_1 /\ bsp (!x) (R (.returned (.int .i64 6)) w'_1) (CallsS Tryz.prog 50 #[.pointer (some (Addr.mk b 0 none)), .agg (arrI .u8 i 32 0).toArray, .string s, .agg (arrI .u8 a 16 0).toArray,
 .int .i64 now, .int .i64 2, .string rs] w'_1 fun (e : Ending) (w' : World) => ∃ (x : Int), e = .returned (.int .i64 x) /\ KeptL [n_1, n] w'_1 w' /\ R (.returned (.int .i64 x)) w')))
theorem vc_reject (b : Nat) (i : Nat -> Int) (s : ByteArray) (a : Nat -> Int) (rs : ByteArray) (now : Int) (w : World) (R : Ending -> World -> Prop) (h : VC_reject b i s a rs now w R) : Calls Tryz.prog 24 ([Value.pointer (some { block := b, off := 0 }), .agg (arrI .u8 i 32 0).toArray, .string s, .agg (arrI .u8 a 16 0).toArray, .string rs, .int .i64 now] : List Value).toArray w R :=
 calls_of_exec2' (loops := []) (tails := []) (joins := []) (boxes := []) (rngs := []) (c := Tryz.f24.body.getD .skip) pur1_ok Tryz.func24 (by kernel_rfl) (by kernel_rfl) h
def VC_get_ (b : Nat) (i : Nat -> Int) (s : ByteArray) (w : World) (R : Ending -> World -> Prop) : Prop := ∀ (n n_1 : Nat) (W : World), Loc w.heap.size [Blk.mk n_1 48 [Value.int .u8 0, .int .u8 0, .int .u8 0, .int .u8 0, .int .u8 0, .int .u8 0, .int .u8 0, .int .u8 0, .int .u8 0, .int .u8 0, .int .u8 0, .int .u8 0, .int .u8 0, .int .u8 0, .int .u8 0, .int .u8 0, .int .u8 0, .int .u8 0, .int .u8 0, .int .u8 0, .int .u8 0, .int .u8 0, .int .u8 0, .int .u8 0, .int .u8 0, .int .u8 0, .int .u8 0, .int .u8 0, .int .u8 0, .int .u8 0, .int .u8 0, .int .u8 0, .string (ByteArray.mk #[]), .string (ByteArray.mk #[]), .int .i64 0, .int .i64 0, .int .u8 0, .int .u8 0, .int .u8 0, .int .u8 0, .int .u8 0, .int .u8 0, .int .u8 0, .int .u8 0, .int .u8 0, .int .u8 0, .int .u8 0, .int .u8 0, .int .u8 0, .int .u8 0, .int .u8 0, .int .u8 0, .int .i64 0, .string (ByteArray.mk #[])] 2, Blk.mk n 32
 (arrI .u8 i 32 0) 2] w W -> ∃ (S : World -> Prop), S W /\ ∃ (x : Option Nat), (∀ (w' : World), S w' -> w'.cell? (Addr.mk b (0 + 4) none) = some (.map x)) /\ ∃ (f : Nat -> Int), (∀ (w' : World), S w' -> AtL w' n 0 (arrI .u8 f 32 0)) /\ ∃ (f_1 : Nat -> Int) (x_1 : ByteArray), ∃ (x_2 : ByteArray) (x_3 : Int), ∃ (x_4 : Int) (f_2 : Nat -> Int), ∃ (x_5 : Int) (x_6 : ByteArray), ∃ (x_7 : Bool) (f_3 : Nat -> Int), ∃ (x_8 : Int) (b : Bool), (∀ (w' : World), S w' -> LookP Tryz.prog 96 (.map x) (.agg (arrI .u8 f 32 0 ++ [Value.string s]).toArray) true (.tuple #[.agg (arrI .u8 f_1 32 0 ++ ([Value.string x_1, .string x_2, .int .i64 x_3, .int .i64 x_4] ++ arrI .u8 f_2 16 0 ++ ([Value.int .i64 x_5, .string x_6, .bool x_7] ++ arrI .u8 f_3 16 0 ++ [Value.int .i64 x_8]))).toArray, .bool b]) w') /\ ∀ (n_2 : Nat) (w1 : World), NewB W (Obj.cells #[.int .u8 0, .int .u8 0, .int .u8 0,
 .int .u8 0, .int .u8 0, .int .u8 0, .int .u8 0, .int .u8 0, .int .u8 0, .int .u8 0, .int .u8 0, .int .u8 0, .int .u8 0, .int .u8 0, .int .u8 0, .int .u8 0, .int .u8 0, .int .u8 0, .int .u8 0, .int .u8 0, .int .u8 0, .int .u8 0, .int .u8 0, .int .u8 0, .int .u8 0, .int .u8 0, .int .u8 0, .int .u8 0, .int .u8 0, .int .u8 0, .int .u8 0, .int .u8 0, .string (ByteArray.mk #[]), .string (ByteArray.mk #[]), .int .i64 0, .int .i64 0, .int .u8 0, .int .u8 0, .int .u8 0, .int .u8 0, .int .u8 0, .int .u8 0, .int .u8 0, .int .u8 0, .int .u8 0, .int .u8 0, .int .u8 0, .int .u8 0, .int .u8 0, .int .u8 0, .int .u8 0, .int .u8 0, .int .i64 0, .string (ByteArray.mk #[]), .bool false, .int .u8 0, .int .u8 0, .int .u8 0, .int .u8 0, .int .u8 0, .int .u8 0, .int .u8 0, .int .u8 0, .int .u8 0, .int .u8 0, .int .u8 0, .int .u8 0, .int .u8 0, .int .u8 0, .int .u8 0, .int .u8 0, .int .i64 0] 107) n_2 w1 ->
 S w1 /\ WrL w1 n_2 0 72 /\ ∀ (w1_1 : World), PutB w1 n_2 0 (arrI .u8 f_1 32 0 ++ ([Value.string x_1, .string x_2, .int .i64 x_3, .int .i64 x_4] ++ arrI .u8 f_2 16 0 ++ ([Value.int .i64 x_5, .string x_6, .bool x_7] ++ arrI .u8 f_3 16 0 ++ [Value.int .i64 x_8]))) w1_1 -> KeptL [n_1, n] W w1_1 /\ ∃ (f : Nat -> Int) (x : ByteArray), ∃ (x_9 : ByteArray) (x_10 : Int), ∃ (x_11 : Int) (f_4 : Nat -> Int), ∃ (x_12 : Int) (x_13 : ByteArray), AtL w1_1 n_2 0 (arrI .u8 f 32 0 ++ ([Value.string x, .string x_9, .int .i64 x_10, .int .i64 x_11] ++ arrI .u8 f_4 16 0 ++ [Value.int .i64 x_12, .string x_13])) /\ ∀ (W : World), Loc w.heap.size [Blk.mk n_1 48 (arrI .u8 f 32 0 ++ ([Value.string x, .string x_9, .int .i64 x_10, .int .i64 x_11] ++ arrI .u8 f_4 16 0 ++ [Value.int .i64 x_12, .string x_13])) (wrM 0), Blk.mk n 32 (arrI .u8 i 32 0) 0] w1_1 W -> R (.returned (.tuple #[.agg
 (arrI .u8 f 32 0 ++ ([Value.string x, .string x_9, .int .i64 x_10, .int .i64 x_11] ++ arrI .u8 f_4 16 0 ++ [Value.int .i64 x_12, .string x_13])).toArray, .bool b])) W
theorem vc_get_ (b : Nat) (i : Nat -> Int) (s : ByteArray) (w : World) (R : Ending -> World -> Prop) (h : VC_get_ b i s w R) : Calls Tryz.prog 21 ([Value.pointer (some { block := b, off := 0 }), .agg (arrI .u8 i 32 0).toArray, .string s] : List Value).toArray w R :=
 calls_of_exec2' (loops := []) (tails := [(3, 11)]) (joins := []) (boxes := []) (rngs := []) (c := Tryz.f21.body.getD .skip) pur1_ok Tryz.func21 (by kernel_rfl) (by kernel_rfl) h
def VC_lapse (b : Nat) (now : Int) (w : World) (R : Ending -> World -> Prop) : Prop := CallsS Tryz.prog 48 #[.pointer (some (Addr.mk b 0 none)), .int .i64 now] w fun (e : Ending) (w' : World) => ∃ (x : Int), e = .returned (.int .i64 x) /\ KeptL [] w w' /\ bsp (x != 0) (R (.returned (.slice none 0 0)) w') (∃ (x : Int), w'.cell? (Addr.mk b (0 + 1) none) = some (.int .i64 x) /\ ∀ (n : Nat) (W : World), Loc w.heap.size [Blk.mk n 3 [Value.int .i64 (IntKind.i64.wrap (now - IntKind.i64.wrap (x * 1440)))] (wrM 2)] w' W -> CallsS Tryz.prog 65 #[.pointer (some (Addr.mk b 0 none)), Value.func (Fn.func 69) #[] #[.pointer (some (Addr.mk n 0 none))]] W fun (e : Ending) (w' : World) => ∃ (p : Option Addr) (n : Nat) (c : Nat), e = .returned (.slice p n c) /\ KeptL [] W w' /\ CallsS Tryz.prog 67 #[.slice p n c, Value.func (Fn.func 68) #[] #[]] w' fun (e : Ending) (w'_1 : World) =>
 e = .returned (.tuple #[]) /\ KeptL [] w' w'_1 /\ ∃ (I : List Value -> World -> Prop) (m : List Value -> World -> Nat), I [Value.int .i64 0] w'_1 /\ ∀ (x : Int) (w' : World), I [Value.int .i64 x] w' -> bsp (decide (x < (↑n : Int))) (nn true p fun (b_1 o : Nat) => (0 <= x /\ x < (↑n : Int)) /\ ∃ (f : Nat -> Int) (x_1 : ByteArray), ∃ (x_2 : ByteArray) (x_3 : Int), ∃ (x_4 : Int) (f_1 : Nat -> Int), ∃ (x_5 : Int) (x_6 : ByteArray), AtL w' b_1 (o + x.toNat * 54) (arrI .u8 f 32 0 ++ ([Value.string x_1, .string x_2, .int .i64 x_3, .int .i64 x_4] ++ arrI .u8 f_1 16 0 ++ [Value.int .i64 x_5, .string x_6])) /\ ∀ (n_1 : Nat) (W : World), Loc w.heap.size [Blk.mk n_1 48 (arrI .u8 f 32 0 ++ ([Value.string x_1, .string x_2, .int .i64 x_3, .int .i64 x_4] ++ arrI .u8 f_1 16 0 ++ [Value.int .i64 x_5, .string x_6])) (wrM 2)] w' W -> CallsS Tryz.prog 70 #[.pointer (some (Addr.mk b 0 none)),
 .agg (arrI .u8 f 32 0 ++ ([Value.string x_1, .string x_2, .int .i64 x_3, .int .i64 x_4] ++ arrI .u8 f_1 16 0 ++ [Value.int .i64 x_5, .string x_6])).toArray, .agg #[.int .u8 0, .int .u8 0, .int .u8 0, .int .u8 0, .int .u8 0, .int .u8 0, .int .u8 0, .int .u8 0, .int .u8 0, .int .u8 0, .int .u8 0, .int .u8 0, .int .u8 0, .int .u8 0, .int .u8 0, .int .u8 0], .int .i64 now, .int .i64 3, .string (ByteArray.mk #[])] W fun (e : Ending) (w'_2 : World) => ∃ (f : Nat -> Int) (x_7 : ByteArray), ∃ (x_8 : ByteArray) (x_9 : Int), ∃ (x_10 : Int) (f_2 : Nat -> Int), ∃ (x_11 : Int) (x_12 : ByteArray), e = .returned (.agg (arrI .u8 f 32 0 ++ ([Value.string x_7, .string x_8, .int .i64 x_9, .int .i64 x_10] ++ arrI .u8 f_2 16 0 ++ [Value.int .i64 x_11, .string x_12])).toArray) /\ KeptL [n_1] W w'_2 /\ nn true p fun (b o : Nat) => (0 <= x /\ x < (↑n : Int)) /\ WrL w'_2 b (o + x.toNat * 54) 54 /\
 ∀ (w1 : World), PutB w'_2 b (o + x.toNat * 54) (arrI .u8 f 32 0 ++ ([Value.string x_7, .string x_8, .int .i64 x_9, .int .i64 x_10] ++ arrI .u8 f_2 16 0 ++ [Value.int .i64 x_11, .string x_12])) w1 -> KeptL [n_1] w'_2 w1 /\ I [Value.int .i64 (IntKind.i64.wrap (x + 1))] w1 /\ m [Value.int .i64 (IntKind.i64.wrap (x + 1))] w1 < m [Value.int .i64 x] w') (R (.returned (.slice p n c)) w'))
theorem vc_lapse (b : Nat) (now : Int) (w : World) (R : Ending -> World -> Prop) (h : VC_lapse b now w R) : Calls Tryz.prog 33 ([Value.pointer (some { block := b, off := 0 }), .int .i64 now] : List Value).toArray w R :=
 calls_of_exec2' (loops := [(7, [(27, Ck.int .i64)])]) (tails := []) (joins := []) (boxes := []) (rngs := []) (c := Tryz.f33.body.getD .skip) pur1_ok Tryz.func33 (by kernel_rfl) (by kernel_rfl) h
def VC_forget (b : Nat) (bf : Int) (w : World) (R : Ending -> World -> Prop) : Prop := ∀ (n : Nat) (W : World), Loc w.heap.size [Blk.mk n 3 [Value.int .i64 bf] 2] w W -> CallsS Tryz.prog 65 #[.pointer (some (Addr.mk b 0 none)), Value.func (Fn.func 82) #[] #[.pointer (some (Addr.mk n 0 none))]] W fun (e : Ending) (w' : World) => ∃ (p : Option Addr) (n : Nat) (c : Nat), e = .returned (.slice p n c) /\ KeptL [] W w' /\ ∃ (I : List Value -> World -> Prop) (m : List Value -> World -> Nat), I [Value.int .i64 0] w' /\ ∀ (x : Int) (w' : World), I [Value.int .i64 x] w' -> bsp (decide (x < (↑n : Int))) (nn true p fun (b_1 o : Nat) => (0 <= x /\ x < (↑n : Int)) /\ ∃ (f : Nat -> Int) (x_1 : ByteArray), ∃ (x_2 : ByteArray) (x_3 : Int), ∃ (x_4 : Int) (f_1 : Nat -> Int), ∃ (x_5 : Int) (x_6 : ByteArray), AtL w' b_1 (o + x.toNat * 54)
 (arrI .u8 f 32 0 ++ ([Value.string x_1, .string x_2, .int .i64 x_3, .int .i64 x_4] ++ arrI .u8 f_1 16 0 ++ [Value.int .i64 x_5, .string x_6])) /\ ∀ (n : Nat), ∃ (x_7 : Option Nat), (∀ (W : World), Loc w.heap.size [Blk.mk n 48 (arrI .u8 f 32 0 ++ ([Value.string x_1, .string x_2, .int .i64 x_3, .int .i64 x_4] ++ arrI .u8 f_1 16 0 ++ [Value.int .i64 x_5, .string x_6])) (wrM 2)] w' W -> W.cell? (Addr.mk b (0 + 4) none) = some (.map x_7)) /\ ∀ (W : World), Loc w.heap.size [Blk.mk n 48 (arrI .u8 f 32 0 ++ ([Value.string x_1, .string x_2, .int .i64 x_3, .int .i64 x_4] ++ arrI .u8 f_1 16 0 ++ [Value.int .i64 x_5, .string x_6])) (wrM 2)] w' W -> ∃ (w1 : World), BltP Tryz.prog Builtin.delete [96, 103] [Value.map x_7, .agg (arrI .u8 f 32 0 ++ [Value.string x_1]).toArray] W w1 /\ KeptL [n] W w1 /\ I [Value.int .i64 (IntKind.i64.wrap (x + 1))] w1 /\
 m [Value.int .i64 (IntKind.i64.wrap (x + 1))] w1 < m [Value.int .i64 x] w') (R (.returned (.int .i64 (↑n : Int))) w')
theorem vc_forget (b : Nat) (bf : Int) (w : World) (R : Ending -> World -> Prop) (h : VC_forget b bf w R) : Calls Tryz.prog 44 ([Value.pointer (some { block := b, off := 0 }), .int .i64 bf] : List Value).toArray w R :=
 calls_of_exec2' (loops := [(3, [(13, Ck.int .i64)])]) (tails := [(5, 9)]) (joins := []) (boxes := []) (rngs := []) (c := Tryz.f44.body.getD .skip) pur1_ok Tryz.func44 (by kernel_rfl) (by kernel_rfl) h
end Go.Proofs.YtfacflbmlfbeeaaGreatDoor
namespace Go.Proofs.YtfacflbmlfbeeaaGreatDoor
open Go.RowKit Go.Sort Go.Maps
theorem begin_cases {now x : Int} (h : x = if minB now = true then 0 else 2) : ((x != 0) = true /\ minB now = false /\ x = 2) \/ ((x != 0) = false /\ minB now = true /\ x = 0) := by
 cases hm : minB now with
 | true => rw [hm] at h; right; subst h; exact ⟨rfl, rfl, rfl⟩
 | false => rw [hm] at h; left; subst h; exact ⟨rfl, rfl, rfl⟩
noncomputable def rejE (q : Qu) (id : Nat -> Int) (g : ByteArray) (a : Nat -> Int) (rs : ByteArray) (now : Int) : Int := if minB now = false then 2 else if 200 < rs.size then 5 else if prtB rs = false then 6 else decE q id g a now
noncomputable def rejQ (q : Qu) (id : Nat -> Int) (g : ByteArray) (a : Nat -> Int) (rs : ByteArray) (now : Int) : Qu := if minB now = false then q else if 200 < rs.size then q else if prtB rs = false then q else decQ q id g a now 2 rs
theorem reject_any {w : World} {b mb eb : Nat} {q : Qu} (h : Mq w b mb eb q) (ho : q.OK) (hln : q.es.length <= 10000) (id : Nat -> Int) (hid : BY id) (g : ByteArray) (hg : g.size <= 1073741824) (a : Nat -> Int) (ha : BY a) (rs : ByteArray) (now : Int) :
  Calls Tryz.prog 24 #[.pointer (some ⟨b, 0, none⟩), .agg (arrI .u8 id 32 0).toArray, .string g, .agg (arrI .u8 a 16 0).toArray, .string rs, .int .i64 now] w fun e w' => e = .returned (.int .i64 (rejE q id g a rs now)) /\ Mq w' b mb eb (rejQ q id g a rs now) /\ Kp (QB b mb eb) w w' := by
 refine vc_reject b id g a rs now w _ (fun n n1 W hW => ?_)
 have kW : K0 w W := hW.kk rfl
 have c0 := hW.cells 0 rfl
 have c1 := hW.cells 1 rfl
 refine ⟨(begin_any b now W).mono fun e w1 ⟨he, k1⟩ => ⟨_, he, .of_k0 k1, ?_⟩⟩
 have k01 := kW.trans k1
 rcases begin_cases (now := now) rfl with ⟨e1, hm, e2⟩ | ⟨e1, hm, e2⟩
 ·rw [e1]
  have hE : rejE q id g a rs now = 2 := by unfold rejE; rw [if_pos hm]
  have hQ : rejQ q id g a rs now = q := by unfold rejQ; rw [if_pos hm]
  rw [hE, hQ, e2]
  exact ⟨rfl, h.k0 k01, k01.q0⟩
 rw [e1]
 refine bsp_intro (fun h => by cases h) (fun _ => bsp_intro (fun h2 => ?_) (fun h2 => ?_))
 ·have h2 : 200 < rs.size := by simp at h2; omega
  have hE : rejE q id g a rs now = 5 := by unfold rejE; rw [if_neg (by rw [hm]; decide), if_pos h2]
  have hQ : rejQ q id g a rs now = q := by unfold rejQ; rw [if_neg (by rw [hm]; decide), if_pos h2]
  rw [hE, hQ]
  exact ⟨rfl, h.k0 k01, k01.q0⟩
 have h2 : ¬ 200 < rs.size := by simp at h2; omega
 refine ⟨(print_any rs w1 (by omega)).mono fun e w2 ⟨he, k2⟩ => ⟨_, he, .of_k0 k2, bsp_intro (fun h3 => ?_) (fun h3 => ?_)⟩⟩
 ·have h3 : prtB rs = false := by simpa using h3
  have hE : rejE q id g a rs now = 6 := by unfold rejE; rw [if_neg (by rw [hm]; decide), if_neg h2, if_pos h3]
  have hQ : rejQ q id g a rs now = q := by unfold rejQ; rw [if_neg (by rw [hm]; decide), if_neg h2, if_pos h3]
  rw [hE, hQ]
  exact ⟨rfl, h.k0 (k01.trans k2), (k01.trans k2).q0⟩
 have h3 : ¬ prtB rs = false := by simpa using h3
 have hE : rejE q id g a rs now = decE q id g a now := by unfold rejE; rw [if_neg (by rw [hm]; decide), if_neg h2, if_neg h3]
 have hQ : rejQ q id g a rs now = decQ q id g a now 2 rs := by unfold rejQ; rw [if_neg (by rw [hm]; decide), if_neg h2, if_neg h3]
 rw [hE, hQ]
 have k02 := k01.trans k2
 have h02 := h.k0 k02
 refine ⟨(decide_any39 h02 ho hln id hid g hg a ha now (minB_iff.1 hm) 2 rs).mono fun e w3 ⟨he, h4, k3⟩ => ⟨_, he, h02.kept k3 (fun k e => e) (fun z hz => ?_), rfl, h4, k02.q0.trans k3⟩⟩
 simp only [List.mem_cons, List.not_mem_nil, or_false] at hz
 rcases hz with rfl | rfl
 ·exact ⟨_, _, _, (k1.trans k2).blk c0 (fun h => h), rfl⟩
 ·exact ⟨_, _, _, (k1.trans k2).blk c1 (fun h => h), rfl⟩
theorem get_any {w : World} {b mb eb : Nat} {q : Qu} (h : Mq w b mb eb q) (id : Nat -> Int) (hid : BY id) (g : ByteArray) (hg : g.size <= 1073741824) :
  Calls Tryz.prog 21 #[.pointer (some ⟨b, 0, none⟩), .agg (arrI .u8 id 32 0).toArray, .string g] w fun e w' => e = .returned (.tuple #[sbV (q.en (idI id, g)).s, .bool (aget q.es (idI id, g)).isSome]) /\ K0 w w' := by
 refine vc_get_ b id g w _ (fun n n1 W hW => ?_)
 have kW : K0 w W := hW.kk rfl
 have h2 := h.k0 kW
 have d1 := hW.cells 1 rfl
 generalize hX : q.en (idI id, g) = X
 refine ⟨fun wx => K0 W wx, .refl _ _, some eb, fun wx k => (h2.k0 k).cE, id, fun wx k => AtL_block (k.blk d1 (fun h => h)) rfl, X.s.id, X.s.g, X.s.tx, X.s.r, X.s.st, X.s.mo, X.s.de, X.s.rs, X.le, X.ho, X.si, (aget q.es (idI id, g)).isSome, fun wx k => by have := (h2.k0 k).lookE hid hg; rw [hX] at this; exact this, fun n4 w4 hn4 => ⟨hn4.kp _, WrL_block hn4.block (by show 0 + 72 <= 72; omega), fun w5 p5 => ?_⟩⟩
 have k5 : K0 W w5 := put_k0 (hn4.kp _) p5 hn4.ge
 have b4 : w5.heap[n4]? = some (.cells (enC X).toArray 107 (0, 0)) := p5.full hn4.block rfl
 exact ⟨.of_k0 k5, X.s.id, X.s.g, X.s.tx, X.s.r, X.s.st, X.s.mo, X.s.de, X.s.rs, AtL_block b4 rfl, fun W6 hW6 => ⟨rfl, hW6.k0 (kW.trans k5)⟩⟩
theorem Qu.OK.en_si {q : Qu} (h : q.OK) (k : Ky) : 0 <= (q.en k).si /\ (q.en k).si <= 105190559 := by
 unfold Qu.en
 cases hgt : aget q.es k with
 | none => exact ⟨by show (0 : Int) <= 0; decide, by show (0 : Int) <= _; decide⟩
 | some x => exact (h.es k x hgt).1.si
def hldB (q : Qu) (id : Nat -> Int) (g : ByteArray) (now : Int) : Bool := minB now && inE (q.en (idI id, g)) now
def hldA (q : Qu) (id : Nat -> Int) (g : ByteArray) (now : Int) : Nat -> Int := if hldB q id g now = true then (q.en (idI id, g)).ho else fun _ => 0
theorem holder_any {w : World} {b mb eb : Nat} {q : Qu} (h : Mq w b mb eb q) (ho : q.OK) (id : Nat -> Int) (hid : BY id) (g : ByteArray) (hg : g.size <= 1073741824) (now : Int) :
  Calls Tryz.prog 41 #[.pointer (some ⟨b, 0, none⟩), .agg (arrI .u8 id 32 0).toArray, .string g, .int .i64 now] w fun e w' => e = .returned (.tuple #[.agg (arrI .u8 (hldA q id g now) 16 0).toArray, .bool (hldB q id g now)]) /\ K0 w w' := by
 refine vc_holder_ b id g now w _ (fun n n1 W hW => ?_)
 have kW : K0 w W := hW.kk rfl
 have d1 := hW.cells 1 rfl
 refine ⟨(begin_any b now W).mono fun e w1 ⟨he, k1⟩ => ⟨_, he, .of_k0 k1, ?_⟩⟩
 have k01 := kW.trans k1
 rcases begin_cases (now := now) rfl with ⟨e1, hm, e2⟩ | ⟨e1, hm, e2⟩
 ·rw [e1]
  have hB : hldB q id g now = false := by unfold hldB; rw [hm]; rfl
  have hA : hldA q id g now = fun _ => 0 := by unfold hldA; rw [if_neg (by rw [hB]; decide)]
  rw [hB, hA]
  exact fun W2 hW2 => ⟨rfl, hW2.k0 k01⟩
 rw [e1]
 intro W2 hW2
 have k2 : K0 w W2 := hW2.k0 k01
 have h2 := h.k0 k2
 have f1 := hW2.cells 1 rfl
 have hsi := ho.en_si (idI id, g)
 have hBe : hldB q id g now = inE (q.en (idI id, g)) now := by unfold hldB; rw [hm]; rfl
 have hAe : hldA q id g now = if inE (q.en (idI id, g)) now = true then (q.en (idI id, g)).ho else fun _ => 0 := by unfold hldA; rw [hBe]
 rw [hBe, hAe]
 generalize hX : q.en (idI id, g) = X at hsi
 refine ⟨fun wx => K0 W2 wx, .refl _ _, some eb, fun wx k => (h2.k0 k).cE, id, fun wx k => AtL_block (k.blk f1 (fun h => h)) rfl, X.s.id, X.s.g, X.s.tx, X.s.r, X.s.st, X.s.mo, X.s.de, X.s.rs, X.le, X.ho, X.si, fun wx k => by have := (h2.k0 k).look1 hid hg; rw [hX] at this; exact this, fun n4 w4 hn4 => ⟨hn4.kp _, WrL_block hn4.block (by show 0 + 72 <= 72; omega), fun w5 p5 => ?_⟩⟩
 have k5 : K0 W2 w5 := put_k0 (hn4.kp _) p5 hn4.ge
 have b4 : w5.heap[n4]? = some (.cells (enC X).toArray 107 (0, 0)) := p5.full hn4.block rfl
 refine ⟨.of_k0 k5, X.le, X.ho, X.si, AtL_block b4 rfl, ?_⟩
 refine ⟨(inEff_any X now hsi (minB_iff.1 hm) w5).mono fun e w6 ⟨he, k6⟩ => ⟨_, he, .of_k0 k6, bsp_intro (fun h3 => ?_) (fun h3 => ?_)⟩⟩
 ·have h3 : inE X now = false := by simpa using h3
  rw [h3, if_neg (by decide)]
  exact fun W7 hW7 => ⟨rfl, hW7.k0 ((k2.trans k5).trans k6)⟩
 ·have h3 : inE X now = true := by simpa using h3
  rw [h3, if_pos rfl]
  exact ⟨X.ho, AtL_block (k6.blk b4 (fun h => h)) rfl, fun W7 hW7 => ⟨rfl, hW7.k0 ((k2.trans k5).trans k6)⟩⟩
theorem put_le {w w1 : World} {n : Nat} {x : En} {t : TypeId} (h : w.heap[n]? = some (.cells (enC x).toArray t (0, 0))) (hp : PutB w n (0 + 54) (([.bool false] : List Value) ++ (arrI .u8 (fun _ => 0) 16 0 ++ ([.int .i64 0] : List Value))) w1) : w1.heap[n]? = some (.cells (enC ⟨x.s, false, fun _ => 0, 0⟩).toArray t (0, 0)) := by
 have h1 := hp.block h
 have e1 : (enC x).toArray.toList = sbC x.s ++ ((([.bool x.le] : List Value) ++ (arrI .u8 x.ho 16 0 ++ ([.int .i64 x.si] : List Value))) ++ []) := by
  unfold enC sbC
  simp only [List.append_assoc, List.append_nil]
  rfl
 have e2 := putL_mid (([.bool false] : List Value) ++ (arrI .u8 (fun _ => 0) 16 0 ++ ([.int .i64 0] : List Value))) (sbC x.s) (([.bool x.le] : List Value) ++ (arrI .u8 x.ho 16 0 ++ ([.int .i64 x.si] : List Value))) [] rfl
 rw [e1, show 0 + 54 = (sbC x.s).length from rfl, e2] at h1
 rw [h1]
 unfold enC sbC
 simp only [List.append_assoc, List.append_nil]
 rfl
def relE (q : Qu) (id : Nat -> Int) (g : ByteArray) (a : Nat -> Int) (now : Int) : Int := if minB now = false then 2 else if (aget q.es (idI id, g)).isSome = false \/ (q.en (idI id, g)).s.st ≠ 0 then 8 else if inE (q.en (idI id, g)) now = false \/ auI (q.en (idI id, g)).ho ≠ auI a then 10 else 0
def relQ (q : Qu) (id : Nat -> Int) (g : ByteArray) (a : Nat -> Int) (now : Int) : Qu := if relE q id g a now = 0 then { q with es := aset q.es (idI id, g) ⟨(q.en (idI id, g)).s, false, fun _ => 0, 0⟩ } else q
set_option maxHeartbeats 2000000 in
set_option maxRecDepth 100000 in
theorem release_any {w : World} {b mb eb : Nat} {q : Qu} (h : Mq w b mb eb q) (ho : q.OK) (id : Nat -> Int) (hid : BY id) (g : ByteArray) (hg : g.size <= 1073741824) (a : Nat -> Int) (ha : BY a) (now : Int) :
  Calls Tryz.prog 43 #[.pointer (some ⟨b, 0, none⟩), .agg (arrI .u8 id 32 0).toArray, .string g, .agg (arrI .u8 a 16 0).toArray, .int .i64 now] w fun e w' => e = .returned (.int .i64 (relE q id g a now)) /\ Mq w' b mb eb (relQ q id g a now) /\ Kp (QB b mb eb) w w' := by
 refine vc_release b id g a now w _ (fun n n1 W hW => ?_)
 have kW : K0 w W := hW.kk rfl
 unfold relQ
 have hErr : ∀ (x : Int) (wz : World), K0 w wz -> relE q id g a now = x -> x ≠ 0 -> (Ending.returned (Value.int .i64 x) = .returned (.int .i64 (relE q id g a now)) /\ Mq wz b mb eb (if relE q id g a now = 0 then { q with es := aset q.es (idI id, g) ⟨(q.en (idI id, g)).s, false, fun _ => 0, 0⟩ } else q) /\ Kp (QB b mb eb) w wz) := fun x wz kz hx hx0 => by
  rw [hx, if_neg hx0]
  exact ⟨rfl, h.k0 kz, kz.q0⟩
 refine ⟨(begin_any b now W).mono fun e w1 ⟨he, k1⟩ => ⟨_, he, .of_k0 k1, ?_⟩⟩
 have k01 := kW.trans k1
 rcases begin_cases (now := now) rfl with ⟨e1, hm, e2⟩ | ⟨e1, hm, e2⟩
 ·rw [e1, e2]
  exact hErr 2 w1 k01 (by unfold relE; rw [if_pos hm]) (by decide)
 rw [e1]
 intro n2 W2 hW2
 have k2 : K0 w W2 := hW2.k0 k01
 have h2 := h.k0 k2
 have f0 := hW2.cells 0 rfl
 have f1 := hW2.cells 1 rfl
 have f2 := hW2.cells 2 rfl
 have hsi := ho.en_si (idI id, g)
 have hoe : (aget q.es (idI id, g)).isSome = true -> (q.en (idI id, g)).OK := fun hs => (ho.en hs).1
 have hRel : relE q id g a now = if (aget q.es (idI id, g)).isSome = false \/ (q.en (idI id, g)).s.st ≠ 0 then 8 else if inE (q.en (idI id, g)) now = false \/ auI (q.en (idI id, g)).ho ≠ auI a then 10 else 0 := by unfold relE; rw [if_neg (by rw [hm]; decide)]
 generalize hX : q.en (idI id, g) = X at hsi hoe hRel hErr ⊢
 refine ⟨fun wx => K0 W2 wx, .refl _ _, some eb, fun wx k => (h2.k0 k).cE, id, g, fun wx k => AtL_block (k.blk f0 (fun h => h)) rfl, X.s.id, X.s.g, X.s.tx, X.s.r, X.s.st, X.s.mo, X.s.de, X.s.rs, X.le, X.ho, X.si, (aget q.es (idI id, g)).isSome, fun wx k => by have := (h2.k0 k).lookE hid hg; rw [hX] at this; exact this, fun n4 w4 hn4 => ⟨hn4.kp _, WrL_block hn4.block (by show 0 + 72 <= 72; omega), fun w5 p5 => ?_⟩⟩
 have k5 : K0 W2 w5 := put_k0 (hn4.kp _) p5 hn4.ge
 have b4 : w5.heap[n4]? = some (.cells (enC X).toArray 107 (0, 0)) := p5.full hn4.block rfl
 have k05 := k2.trans k5
 refine ⟨.of_k0 k5, X.s.st, gimp_intro fun _ => cell_at b4 rfl, bsp_intro (fun h3 => ?_) (fun h3 => ?_)⟩
 ·have h3 : (aget q.es (idI id, g)).isSome = false \/ X.s.st ≠ 0 := by
   rcases (Bool.or_eq_true _ _).mp h3 with hc | hc
   ·exact .inl (by simpa only [Bool.not_eq_true'] using hc)
   ·exact .inr (by simpa using hc)
  exact hErr 8 w5 k05 (by rw [hRel, if_pos h3]) (by decide)
 have h3' : ¬ ((aget q.es (idI id, g)).isSome = false \/ X.s.st ≠ 0) := fun hc => by
  have : (!(aget q.es (idI id, g)).isSome || X.s.st != 0) = true := by
   rcases hc with hc | hc
   ·rw [hc]; rfl
   ·have hc : (X.s.st != 0) = true := by simpa using hc
    rw [hc, Bool.or_true]
  rw [h3] at this; cases this
 have hsm : (aget q.es (idI id, g)).isSome = true := by
  cases hz : (aget q.es (idI id, g)).isSome with
  | true => rfl
  | false => exact absurd (.inl hz) h3'
 have hXo := hoe hsm
 refine ⟨X.le, X.ho, X.si, AtL_block b4 rfl, ?_⟩
 refine ⟨(inEff_any X now hsi (minB_iff.1 hm) w5).mono fun e w6 ⟨he, k6⟩ => ⟨_, he, .of_k0 k6, X.ho, gimp_intro fun _ => AtL_block (k6.blk b4 (fun h => h)) rfl, _, gimp_intro fun _ => auEq hXo.ho ha, bsp_intro (fun h4 => ?_) (fun h4 => ?_)⟩⟩
 ·have h4 : inE X now = false \/ auI X.ho ≠ auI a := by simp at h4; exact h4
  exact hErr 10 w6 (k05.trans k6) (by rw [hRel, if_neg h3', if_pos h4]) (by decide)
 have h4 : ¬ (inE X now = false \/ auI X.ho ≠ auI a) := by simp at h4; simp; exact h4
 have b6 := k6.blk b4 (fun h => h)
 have hE : relE q id g a now = 0 := by rw [hRel, if_neg h3', if_neg h4]
 refine ⟨WrL_block b6 (by show 0 + 54 + 18 <= 72; omega), fun w7 p7 => ?_⟩
 have g4 : W2.heap.size <= n4 := hn4.ge
 have k07 : K0 w w7 := (k05.trans k6).fresh p7.kp (fun i hi e => by have := k2.size; omega)
 have b7 := put_le b6 p7
 have h7 := h.k0 k07
 have ne4 : ∀ {z : Nat} {c : Array Value} {f : Nat × Nat} {t : TypeId}, W2.heap[z]? = some (.cells c t f) -> z ≠ n4 := fun hz e => by have := block_lt hz; omega
 have kB : ∀ {z : Nat} {c : Array Value} {f : Nat × Nat} {t : TypeId}, W2.heap[z]? = some (.cells c t f) -> w7.heap[z]? = some (.cells c t f) := fun hz => p7.kp.blk ((k5.trans k6).blk hz (fun h => h)) (ne4 hz)
 refine ⟨.of_kp p7.kp (fun z hz e => ?_), some eb, fun W8 hW8 => (h7.k0 (hW8.kk rfl)).cE, X.s.id, X.s.g, X.s.tx, X.s.r, X.s.st, X.s.mo, X.s.de, X.s.rs, false, fun _ => 0, 0, fun W8 hW8 => AtL_block ((hW8.kk rfl : K0 w7 W8).blk b7 (fun h => h)) rfl, fun W8 hW8 => ?_⟩
 ·simp only [List.mem_cons, List.not_mem_nil, or_false] at hz
  rcases hz with rfl | rfl | rfl
  ·exact ne4 f0 e
  ·exact ne4 f1 e
  ·exact ne4 f2 e
 have k8 : K0 w7 W8 := hW8.kk rfl
 have h8 := h7.k0 k8
 obtain ⟨w9, hu, h9, k9⟩ := h8.updE ⟨X.s, false, fun _ => 0, 0⟩ hid hg
 refine ⟨w9, hu, h8.kept k9 (fun k e => .inr (.inr e)) (fun z hz => ?_), by rw [hE], ?_, ((k07.trans k8).q0).trans (k9.qb (fun k e => .inr (.inr e)))⟩
 ·simp only [List.mem_cons, List.not_mem_nil, or_false] at hz
  rcases hz with rfl | rfl | rfl
  ·exact ⟨_, _, _, k8.blk (kB f0) (fun h => h), rfl⟩
  ·exact ⟨_, _, _, k8.blk (kB f1) (fun h => h), rfl⟩
  ·exact ⟨_, _, _, k8.blk (kB f2) (fun h => h), rfl⟩
 ·rw [if_pos hE]; exact h9
end Go.Proofs.YtfacflbmlfbeeaaGreatDoor
namespace Go.Proofs.YtfacflbmlfbeeaaGreatDoor
open Go.RowKit Go.Sort Go.Maps
theorem Mq.not_own {w : World} {b mb eb : Nat} {q : Qu} (h : Mq w b mb eb q) {base : Nat} {e : TypeId} {size : Nat} {v : Value} {n : Nat} {xs : List Value} (ho : w.ownsRow base e size v n xs) (he : (98 == e) = false) : ∀ k, v.ownBlock = some k -> ¬ QB b mb eb k := fun k hk hq => by
 obtain ⟨c, hc⟩ := own_type ho hk
 rcases hq with rfl | rfl | rfl
 ·exact own_not ho h.st he hk
 ·obtain ⟨es, c', hb, _⟩ := h.mm.blk; rw [hb] at hc; cases hc
 ·obtain ⟨es, c', hb, _⟩ := h.me.blk; rw [hb] at hc; cases hc
theorem Mq.ownW {w w6 w7 : World} {b mb eb : Nat} {q q' : Qu} (h : Mq w b mb eb q) (h6 : Mq w6 b mb eb q') (hq : q'.ms = q.ms) (k6 : Kp (QB b mb eb) w w6) {M : Nat -> Prop} (hL : Kp M w6 w7) (hM : ∀ k, M k -> w.heap.size <= k) : Mq w7 b mb eb q' /\ Kp (QB b mb eb) w w7 := by
 have k7 : Kp (QB b mb eb) w w7 := k6.fresh hL (fun i hi e => by have := hM i e; omega)
 have hb := block_lt h.st
 have hm := h.mm.lt
 have he := h.me.lt
 exact ⟨⟨hL.blk h6.st (fun e => by have := hM _ e; omega), h6.mm.kp hL (fun e => by have := hM _ e; omega), h6.me.kp hL (fun e => by have := hM _ e; omega), fun g x hx => (h.row g x (by rw [<- hq]; exact hx)).kpU auC_u k7 h.nu, h.ne, h.nz⟩, k7⟩
theorem set_mid {α : Type} (f : α -> α) (l : List α) (i : Nat) (x : α) (h : l[i]? = some x) : ((l.take i).map f ++ l.drop i).set i (f x) = (l.take (i + 1)).map f ++ l.drop (i + 1) := by
 have hi := (List.getElem?_eq_some_iff.1 h).1
 have e : l.drop i = x :: l.drop (i + 1) := by
  rw [List.drop_eq_getElem_cons hi]
  rw [List.getElem?_eq_getElem hi] at h
  cases h; rfl
 rw [e, take_snoc h, List.set_append_right _ _ (by simp; omega)]
 simp only [List.length_map, List.length_take, List.map_append, List.map_cons, List.map_nil, List.append_assoc]
 rw [show i - min i l.length = 0 by omega]
 rfl
def lapP (last : Int) (x : En) : Bool := x.s.st == 0 && decide (x.s.r <= last)
def fin3 (now : Int) (x : Sb) : Sb := finS39 x (fun _ => 0) now 3 ⟨#[]⟩
def finA (now : Int) (q : Qu) (l : List Sb) : Qu := l.foldl (fun q x => finQ q (fin3 now x)) q
theorem finA_snoc (now : Int) (q : Qu) (l : List Sb) (x : Sb) : finA now q (l ++ [x]) = finQ (finA now q l) (fin3 now x) := by unfold finA; rw [List.foldl_append]; rfl
theorem finA_ms (now : Int) : ∀ (l : List Sb) (q : Qu), (finA now q l).ms = q.ms
 | [], q => rfl
 | x :: l, q => by
  show (finA now (finQ q (fin3 now x)) l).ms = _
  rw [finA_ms now l]; rfl
theorem finA_wt (now : Int) : ∀ (l : List Sb) (q : Qu), (finA now q l).wt = q.wt - (l.length : Nat)
 | [], q => by simp [finA]
 | x :: l, q => by
  show (finA now (finQ q (fin3 now x)) l).wt = _
  rw [finA_wt now l]
  show q.wt - 1 - _ = _
  simp; omega
theorem lapC_any (x : En) (last : Int) (b1 : Nat) (w : World) (h1 : w.cell? ⟨b1, 0, none⟩ = some (.int .i64 last)) :
  Calls Tryz.prog 69 #[enV x, .pointer (some ⟨b1, 0, none⟩)] w fun e w' => e = .returned (.bool (lapP last x)) /\ K0 w w' :=
 vc_lapC x.s.id x.s.mo x.s.g x.s.tx x.s.r x.s.st x.s.de x.s.rs x.le x.ho x.si b1 w _ (fun _ => ⟨x.s.r, gimp_intro fun _ _ hW => cell_at (hW.cells 0 rfl) rfl, last, gimp_intro fun _ W hW => (hW.kk rfl : K0 w W).cell' h1 (fun h => h), fun _ hW => ⟨rfl, hW.kk rfl⟩⟩)
theorem sel_wait {P : En -> Bool} (hP : ∀ x, P x = true -> (x.s.st == 0) = true) (es : List (Ky × En)) : (selE P es).length <= (es.filter fun p => p.2.s.st == 0).length := by
 unfold selE
 rw [List.length_map]
 have : es.filter (fun p => P p.2) = (es.filter fun p => p.2.s.st == 0).filter fun p => P p.2 := by
  rw [List.filter_filter]
  refine List.filter_congr fun p _ => ?_
  cases hp : P p.2 with
  | true => rw [hP p.2 hp]; rfl
  | false => simp
 rw [this]
 exact List.length_filter_le _ _
set_option maxHeartbeats 2000000 in
set_option maxRecDepth 100000 in
theorem lapse_any {w : World} {b mb eb : Nat} {q : Qu} (h : Mq w b mb eb q) (ho : q.OK) (hln : q.es.length <= 10000) (now : Int) (hG : GW w) :
  Calls Tryz.prog 33 #[.pointer (some ⟨b, 0, none⟩), .int .i64 now] w fun e w' =>
   (minB now = false /\ e = .returned (.slice none 0 0) /\ Mq w' b mb eb q /\ K0 w w') \/
   (minB now = true /\ ∃ (p : Option Addr) (c : Nat) (L : List Sb), e = .returned (.slice p L.length c) /\ L.Perm (selE (lapP (now - q.days * 1440)) q.es) /\ (L.Pairwise fun x y => ¬ cfM y x < 0) /\
    w'.ownsRow w.heap.size 48 54 (.slice p L.length c) L.length ((L.map (fin3 now)).flatMap sbC) /\ Mq w' b mb eb (finA now q L) /\ Kp (QB b mb eb) w w') := by
 refine vc_lapse b now w _ ⟨(begin_any b now w).mono fun e w1 ⟨he, k1⟩ => ⟨_, he, .of_k0 k1, ?_⟩⟩
 rcases begin_cases (now := now) rfl with ⟨e1, hm, e2⟩ | ⟨e1, hm, e2⟩
 ·rw [e1]
  exact .inl ⟨hm, rfl, h.k0 k1, k1⟩
 rw [e1]
 refine bsp_intro (fun h => by cases h) (fun _ => ⟨q.days, (h.k0 k1).cD, fun n W hW => ?_⟩)
 have hnow := minB_iff.1 hm
 have hday := ho.days
 have kW : K0 w W := hW.k0 k1
 have c0 := hW.cells 0 rfl
 have elast : IntKind.i64.wrap (now - IntKind.i64.wrap (q.days * 1440)) = now - q.days * 1440 := by rw [wr64 (x := q.days * 1440) (by omega) (by omega), wr64 (by omega) (by omega)]
 have hmem := ho.mem h.dis
 have hF : ∀ x : En, x.OK -> ∀ w1, K0 W w1 -> Calls Tryz.prog 69 (appA #[] [enV x] #[.pointer (some ⟨n, 0, none⟩)]) w1 fun e w2 => e = .returned (.bool (lapP (now - q.days * 1440) x)) /\ K0 w1 w2 := fun x hx w1 k => by
  have h1 := lapC_any x (now - q.days * 1440) n w1 (by have := cell_at (o := 0) (k.blk c0 (fun h => h)) rfl; rw [<- elast]; exact this)
  generalize enV x = v at h1 ⊢
  exact h1
 refine ⟨(selected_any (h.k0 kW) hmem (by omega) 69 #[] #[.pointer (some ⟨n, 0, none⟩)] (lapP (now - q.days * 1440)) (by kernel_rfl) hF).mono fun e w2 ⟨⟨p, c, l, he, hp, hown⟩, k2⟩ => ⟨_, _, _, he, .of_k0 k2, ?_⟩⟩
 have k02 := kW.trans k2
 have hl : l.length <= q.es.length := by rw [hp.length_eq]; exact selE_le _ _
 have hgl : ∀ x ∈ l, ∃ k en, (k, en) ∈ q.es /\ lapP (now - q.days * 1440) en = true /\ en.s = x := fun x hx => selE_mem (hp.subset hx)
 refine ⟨(msort_any l p c w2 hown (fun x hx => by obtain ⟨k, en, h1, _, rfl⟩ := hgl x hx; exact (hmem k en h1).1.s.g) (by omega) (hG.kp k02 (fun h => h))).mono fun e w3 ⟨he, L, hpL, hs, hoL, k3⟩ => ⟨he, .of_kp k3 (fun z hz => by cases hz), ?_⟩⟩
 have k03 : K0 w w3 := k02.fresh k3 (fun i hi e => by have := own_ge hown e; have := kW.size; omega)
 have hLl := hpL.length_eq
 rw [<- hLl]
 have hoL := own_base hoL kW.size
 have hLw : (L.length : Int) <= q.wt := by
  have h1 := sel_wait (P := lapP (now - q.days * 1440)) (fun x hx => by unfold lapP at hx; simp at hx; simp [hx.1]) q.es
  have h2 := ho.wt
  have h3 := hp.length_eq
  omega
 have hwu : q.wt <= 10000 := by
  have h1 := ho.wt
  have h2 := List.length_filter_le (fun p : Ky × En => p.2.s.st == 0) q.es
  omega
 refine ⟨fun vs w' => ∃ i : Nat, vs = [.int .i64 (i : Int)] /\ i <= L.length /\ w'.ownsRow w.heap.size 48 54 (.slice p L.length c) L.length (((L.take i).map (fin3 now) ++ L.drop i).flatMap sbC) /\ Mq w' b mb eb (finA now q (L.take i)) /\ Kp (QB b mb eb) w w',
  fun vs _ => (match vs with | .int _ a :: _ => L.length - a.toNat | _ => 0), ⟨0, rfl, by omega, by simpa using hoL, h.k0 k03, k03.q0⟩, ?_⟩
 rintro y w4 ⟨i, hv, hi, ho4, h4, k4⟩
 simp only [List.cons.injEq, Value.int.injEq, true_and, and_true] at hv
 subst hv
 refine bsp_intro (fun hlt => ?_) (fun hge => ?_)
 ·have hlt : i < L.length := by simp at hlt; omega
  have hlen : ((L.take i).map (fin3 now) ++ L.drop i).length = L.length := by simp; omega
  obtain ⟨x, hx⟩ : ∃ x, L[i]? = some x := ⟨_, List.getElem?_eq_getElem hlt⟩
  have hxi : ((L.take i).map (fin3 now) ++ L.drop i)[i]? = some x := by
   rw [List.getElem?_append_right (by simp; omega)]
   simp only [List.length_map, List.length_take]
   rw [show i - min i L.length = 0 by omega, List.getElem?_drop]
   simpa using hx
  rw [<- hlen] at ho4
  obtain ⟨g, hg, hat⟩ := own_at sbC ho4 (fun y _ => sbC_length y) (by decide) hxi
  rw [hlen] at ho4
  rw [Int.toNat_natCast]
  have hat : AtL w4 g (0 + i * 54) (sbC x) := hat
  refine nn_is hg ⟨⟨by omega, by omega⟩, x.id, x.g, x.tx, x.r, x.st, x.mo, x.de, x.rs, hat, fun n1 W5 hW5 => ?_⟩
  have k5 : K0 w4 W5 := hW5.kk rfl
  have h5 := h4.k0 k5
  have ho5 := owns_kp ho4 k5 (fun _ _ h => h)
  have d0 := hW5.cells 0 rfl
  obtain ⟨kx, en, hmx, _, hen⟩ := hgl x (hpL.subset (List.mem_of_getElem? hx))
  have hxo : x.OK := by rw [<- hen]; exact (hmem kx en hmx).1.s
  have hwt := finA_wt now (L.take i) q
  rw [List.length_take, show min i L.length = i by omega] at hwt
  refine ⟨(finish_any h5 (by rw [hwt]; omega) x hxo.id hxo.g (fun _ => 0) now 3 ⟨#[]⟩).mono fun e w6 ⟨he, h6, k6⟩ => ?_⟩
  have eY : finS39 x (fun _ => 0) now 3 ⟨#[]⟩ = fin3 now x := rfl
  rw [eY] at he h6
  generalize hY : fin3 now x = Y at he h6
  have ho6 := owns_kp ho5 k6 (fun k hk e => h5.not_own ho5 rfl k hk e)
  obtain ⟨g', hg', hwr⟩ := own_wr ho6 (k := i) hlt
  rw [hg] at hg'
  simp only [Option.some.injEq, Addr.mk.injEq, and_true] at hg'
  subst hg'
  have d6 : KeptL [n1] W5 w6 := h5.kept k6 (fun k e => e) (fun z hz => by
   simp only [List.mem_cons, List.not_mem_nil, or_false] at hz
   subst hz
   exact ⟨_, _, _, d0, rfl⟩)
  refine ⟨Y.id, Y.g, Y.tx, Y.r, Y.st, Y.mo, Y.de, Y.rs, he, d6, nn_is hg ⟨⟨by omega, by omega⟩, hwr, fun w7 p7 => ?_⟩⟩
  have hgw : w.heap.size <= g := own_ge ho6 (by rw [hg]; rfl)
  have hms : (finQ (finA now q (L.take i)) Y).ms = q.ms := finA_ms now (L.take i) q
  obtain ⟨h7, k7⟩ := h.ownW h6 hms ((k4.trans k5.q0).trans k6) p7.kp (fun k e => by have e : k = g := e; omega)
  have gn1 : w4.heap.size <= n1 := hW5.fresh 0 rfl rfl
  have gg4 : g < w4.heap.size := own_lt ho4 (by rw [hg]; rfl)
  subst hg
  have ho7 := own_set (y := Y) ho6 hlen.symm sbC_length (by decide) (by rw [hlen]; exact hlt) p7
  rw [<- hY, set_mid (fin3 now) L i x hx] at ho7
  rw [<- hY, <- finA_snoc, <- take_snoc hx] at h7
  rw [inc64 (by omega)]
  refine ⟨.of_kp p7.kp (fun z hz e => ?_), ⟨i + 1, rfl, hlt, ho7, h7, k7⟩, by simp only [Int.toNat_natCast]; omega⟩
  simp only [List.mem_cons, List.not_mem_nil, or_false] at hz
  have e : z = g := e
  omega
 ·have : i = L.length := by simp at hge; omega
  subst this
  rw [List.take_length] at h4 ho4
  rw [List.drop_length, List.append_nil] at ho4
  exact .inr ⟨hm, p, c, L, rfl, hpL.trans hp, hs, ho4, h4, k4⟩
def fgtP (bf : Int) (x : En) : Bool := x.s.st != 0 && decide (x.s.de < bf)
def delA (q : Qu) (l : List Sb) : Qu := l.foldl (fun q x => { q with es := adel q.es x.ky }) q
theorem delA_snoc (q : Qu) (l : List Sb) (x : Sb) : delA q (l ++ [x]) = { delA q l with es := adel (delA q l).es x.ky } := by unfold delA; rw [List.foldl_append]; rfl
theorem fgtC_any (x : En) (bf : Int) (b1 : Nat) (w : World) (h1 : w.cell? ⟨b1, 0, none⟩ = some (.int .i64 bf)) :
  Calls Tryz.prog 82 #[enV x, .pointer (some ⟨b1, 0, none⟩)] w fun e w' => e = .returned (.bool (fgtP bf x)) /\ K0 w w' :=
 vc_fgtC x.s.id x.s.mo x.s.g x.s.tx x.s.r x.s.st x.s.de x.s.rs x.le x.ho x.si b1 w _ (fun _ => ⟨x.s.de, gimp_intro fun _ _ hW => cell_at (hW.cells 0 rfl) rfl, bf, gimp_intro fun _ W hW => (hW.kk rfl : K0 w W).cell' h1 (fun h => h), fun _ hW => ⟨rfl, hW.kk rfl⟩⟩)
set_option maxHeartbeats 2000000 in
set_option maxRecDepth 100000 in
theorem forget_any {w : World} {b mb eb : Nat} {q : Qu} (h : Mq w b mb eb q) (ho : q.OK) (hln : q.es.length <= 10000) (bf : Int) :
  Calls Tryz.prog 44 #[.pointer (some ⟨b, 0, none⟩), .int .i64 bf] w fun e w' => (∃ L : List Sb, e = .returned (.int .i64 (L.length : Nat)) /\ L.Perm (selE (fgtP bf) q.es) /\ Mq w' b mb eb (delA q L)) /\ Kp (QB b mb eb) w w' := by
 refine vc_forget b bf w _ (fun n W hW => ?_)
 have kW : K0 w W := hW.kk rfl
 have c0 := hW.cells 0 rfl
 have hmem := ho.mem h.dis
 have hF : ∀ x : En, x.OK -> ∀ w1, K0 W w1 -> Calls Tryz.prog 82 (appA #[] [enV x] #[.pointer (some ⟨n, 0, none⟩)]) w1 fun e w2 => e = .returned (.bool (fgtP bf x)) /\ K0 w1 w2 := fun x hx w1 k => by
  have h1 := fgtC_any x bf n w1 (cell_at (k.blk c0 (fun h => h)) rfl)
  generalize enV x = v at h1 ⊢
  exact h1
 refine ⟨(selected_any (h.k0 kW) hmem (by omega) 82 #[] #[.pointer (some ⟨n, 0, none⟩)] (fgtP bf) (by kernel_rfl) hF).mono fun e w2 ⟨⟨p, c, l, he, hp, hown⟩, k2⟩ => ⟨_, _, _, he, .of_k0 k2, ?_⟩⟩
 have k02 := kW.trans k2
 have hown := own_base hown kW.size
 have hR : RowA sbC 54 w2 p l := RowA.own hown sbC_length (by decide)
 have hl : l.length <= q.es.length := by rw [hp.length_eq]; exact selE_le _ _
 refine ⟨fun vs w' => ∃ i : Nat, vs = [.int .i64 (i : Int)] /\ i <= l.length /\ RowA sbC 54 w' p l /\ Mq w' b mb eb (delA q (l.take i)) /\ Kp (QB b mb eb) w w',
  fun vs _ => (match vs with | .int _ a :: _ => l.length - a.toNat | _ => 0), ⟨0, rfl, by omega, hR, h.k0 k02, k02.q0⟩, ?_⟩
 rintro y w4 ⟨i, hv, hi, hR4, h4, k4⟩
 simp only [List.cons.injEq, Value.int.injEq, true_and, and_true] at hv
 subst hv
 refine bsp_intro (fun hlt => ?_) (fun hge => ?_)
 ·have hlt : i < l.length := by simp at hlt; omega
  obtain ⟨x, g, o, hx, hg, hat⟩ := hR4.get hlt
  rw [Int.toNat_natCast]
  obtain ⟨kx, en, hmx, _, hen⟩ := selE_mem (hp.subset (List.mem_of_getElem? hx))
  have hxo : x.OK := by rw [<- hen]; exact (hmem kx en hmx).1.s
  refine nn_is hg ⟨⟨by omega, by omega⟩, x.id, x.g, x.tx, x.r, x.st, x.mo, x.de, x.rs, hat, fun n1 => ⟨some eb, fun W5 hW5 => (h4.k0 (hW5.kk rfl)).cE, fun W5 hW5 => ?_⟩⟩
  have k5 : K0 w4 W5 := hW5.kk rfl
  have h5 := h4.k0 k5
  have d0 := hW5.cells 0 rfl
  obtain ⟨w6, hb6, h6, k6⟩ := h5.delE hxo.id hxo.g
  have k46 : Kp (QB b mb eb) w4 w6 := k5.q0.trans (k6.qb (fun k e => .inr (.inr e)))
  rw [inc64 (by omega)]
  refine ⟨w6, hb6, h5.kept k6 (fun k e => .inr (.inr e)) (fun z hz => ?_), ⟨i + 1, rfl, hlt, hR4.kpU sbC_u k46 h4.nu, by rw [take_snoc hx, delA_snoc]; exact h6, k4.trans k46⟩, by simp only [Int.toNat_natCast]; omega⟩
  simp only [List.mem_cons, List.not_mem_nil, or_false] at hz
  subst hz
  exact ⟨_, _, _, d0, rfl⟩
 ·have : i = l.length := by simp at hge; omega
  subst this
  rw [List.take_length] at h4
  exact ⟨⟨l, rfl, hp, h4⟩, k4⟩
end Go.Proofs.YtfacflbmlfbeeaaGreatDoor
namespace Go.Proofs.YtfacflbmlfbeeaaGreatDoor
set_option maxRecDepth 100000
set_option linter.unusedVariables false
def VC_xcmp (a : Nat -> Int) (b : Nat -> Int) (w : World) (R : Ending -> World -> Prop) : Prop := ∀ (n n_1 : Nat) (W : World), Loc w.heap.size [Blk.mk n_1 45 (arrI .u8 b 16 0) 2, Blk.mk n 45 (arrI .u8 a 16 0) 2] w W -> ∃ (I : List Value -> World -> Prop) (m : List Value -> World -> Nat), I [Value.int .i64 0] W /\ ∀ (x : Int) (w' : World), I [Value.int .i64 x] w' -> bsp (decide (x < 16)) (∀ (W : World), Loc w.heap.size [] w' W -> (0 <= x /\ x < (↑16 : Int)) /\ ∃ (x_1 : Int), W.cell? (Addr.mk n (0 + x.toNat) none) = some (.int .u8 x_1) /\ (0 <= x /\ x < (↑16 : Int)) /\ ∃ (x_2 : Int), W.cell? (Addr.mk n_1 (0 + x.toNat) none) = some (.int .u8 x_2) /\ bsp (decide (x_1 < x_2)) (R (.returned (.int .i64 (-1))) W) (∀ (W_1 : World), Loc w.heap.size [] W W_1 -> (0 <= x /\ x < (↑16 : Int)) /\ ∃ (x_3 : Int), W_1.cell? (Addr.mk n (0 + x.toNat) none) = some (.int .u8 x_3) /\
 (0 <= x /\ x < (↑16 : Int)) /\ ∃ (x_4 : Int), W_1.cell? (Addr.mk n_1 (0 + x.toNat) none) = some (.int .u8 x_4) /\ bsp (decide (x_3 > x_4)) (R (.returned (.int .i64 1)) W_1) (I [Value.int .i64 (IntKind.i64.wrap (x + 1))] W_1 /\ m [Value.int .i64 (IntKind.i64.wrap (x + 1))] W_1 < m [Value.int .i64 x] w'))) (R (.returned (.int .i64 0)) w')
theorem vc_xcmp (a : Nat -> Int) (b : Nat -> Int) (w : World) (R : Ending -> World -> Prop) (h : VC_xcmp a b w R) : Calls Tryz.prog 54 ([Value.agg (arrI .u8 a 16 0).toArray, .agg (arrI .u8 b 16 0).toArray] : List Value).toArray w R :=
 calls_of_exec2' (loops := [(2, [(5, Ck.int .i64)])]) (tails := []) (joins := []) (boxes := []) (rngs := []) (c := Tryz.f54.body.getD .skip) pur1_ok Tryz.func54 (by kernel_rfl) (by kernel_rfl) h
def VC_xr11 (a : Nat -> Int) (b : Nat -> Int) (w : World) (R : Ending -> World -> Prop) : Prop := ∀ (n n_1 : Nat) (W : World), Loc w.heap.size [Blk.mk n_1 133 (arrI .u8 b 32 0) 2, Blk.mk n 133 (arrI .u8 a 32 0) 2] w W -> ∃ (I : List Value -> World -> Prop) (m : List Value -> World -> Nat), I [Value.int .i64 0] W /\ ∀ (x : Int) (w' : World), I [Value.int .i64 x] w' -> bsp (decide (x < 32)) (∀ (W : World), Loc w.heap.size [] w' W -> (0 <= x /\ x < (↑32 : Int)) /\ ∃ (x_1 : Int), W.cell? (Addr.mk n (0 + x.toNat) none) = some (.int .u8 x_1) /\ (0 <= x /\ x < (↑32 : Int)) /\ ∃ (x_2 : Int), W.cell? (Addr.mk n_1 (0 + x.toNat) none) = some (.int .u8 x_2) /\ bsp (decide (x_1 < x_2)) (R (.returned (.int .i64 (-1))) W) (∀ (W_1 : World), Loc w.heap.size [] W W_1 -> (0 <= x /\ x < (↑32 : Int)) /\ ∃ (x_3 : Int), W_1.cell? (Addr.mk n (0 + x.toNat) none) = some (.int .u8 x_3) /\
 (0 <= x /\ x < (↑32 : Int)) /\ ∃ (x_4 : Int), W_1.cell? (Addr.mk n_1 (0 + x.toNat) none) = some (.int .u8 x_4) /\ bsp (decide (x_3 > x_4)) (R (.returned (.int .i64 1)) W_1) (I [Value.int .i64 (IntKind.i64.wrap (x + 1))] W_1 /\ m [Value.int .i64 (IntKind.i64.wrap (x + 1))] W_1 < m [Value.int .i64 x] w'))) (R (.returned (.int .i64 0)) w')
theorem vc_xr11 (a : Nat -> Int) (b : Nat -> Int) (w : World) (R : Ending -> World -> Prop) (h : VC_xr11 a b w R) : Calls Tryz.prog 79 ([Value.agg (arrI .u8 a 32 0).toArray, .agg (arrI .u8 b 32 0).toArray] : List Value).toArray w R :=
 calls_of_exec2' (loops := [(2, [(5, Ck.int .i64)])]) (tails := []) (joins := []) (boxes := []) (rngs := []) (c := Tryz.f79.body.getD .skip) pur1_ok Tryz.func79 (by kernel_rfl) (by kernel_rfl) h
def VC_xr12 (s : ByteArray) (t : ByteArray) (w : World) (R : Ending -> World -> Prop) : Prop := CallsS Tryz.prog 94 #[.string s, .int .u8 46] w fun (e : Ending) (w' : World) => ∃ (p : Option Addr) (n : Nat) (c : Nat), e = .returned (.slice p n c) /\ KeptL [] w w' /\ CallsS Tryz.prog 94 #[.string t, .int .u8 46] w' fun (e : Ending) (w'_1 : World) => ∃ (p_1 : Option Addr) (n_1 : Nat) (c : Nat), e = .returned (.slice p_1 n_1 c) /\ KeptL [] w' w'_1 /\ ∃ (I : List Value -> World -> Prop) (m : List Value -> World -> Nat), I [Value.int .i64 0] w'_1 /\ ∀ (x : Int) (w' : World), I [Value.int .i64 x] w' -> bsp (decide (x < (↑n : Int)) && decide (x < (↑n_1 : Int))) (nn true p fun (b o : Nat) => (0 <= x /\ x < (↑n : Int)) /\ ∃ (x_1 : ByteArray), (∀ (W : World), Loc w.heap.size [] w' W -> W.cell? (Addr.mk b (o + x.toNat) none) = some (.string x_1)) /\ nn true p_1 fun (b o : Nat) =>
 (0 <= x /\ x < (↑n_1 : Int)) /\ ∃ (x_2 : ByteArray), (∀ (W : World), Loc w.heap.size [] w' W -> W.cell? (Addr.mk b (o + x.toNat) none) = some (.string x_2)) /\ bsp (Op.bytesLess x_1.toList x_2.toList) (∀ (W : World), Loc w.heap.size [] w' W -> R (.returned (.int .i64 (-1))) W) (nn true p fun (b o : Nat) => (0 <= x /\ x < (↑n : Int)) /\ ∃ (x_3 : ByteArray), (∀ (W : World), Loc w.heap.size [] w' W -> W.cell? (Addr.mk b (o + x.toNat) none) = some (.string x_3)) /\ nn true p_1 fun (b o : Nat) => (0 <= x /\ x < (↑n_1 : Int)) /\ ∃ (x_4 : ByteArray), (∀ (W : World), Loc w.heap.size [] w' W -> W.cell? (Addr.mk b (o + x.toNat) none) = some (.string x_4)) /\ bsp (!(Op.bytesLess x_3.toList x_4.toList || x_3.toList == x_4.toList)) (∀ (W : World), Loc w.heap.size [] w' W -> R (.returned (.int .i64 1)) W) (∀ (W : World), Loc w.heap.size [] w' W -> I [Value.int .i64 (IntKind.i64.wrap (x + 1))] W /\
 m [Value.int .i64 (IntKind.i64.wrap (x + 1))] W < m [Value.int .i64 x] w'))) (bsp (decide ((↑n : Int) < (↑n_1 : Int))) (R (.returned (.int .i64 (-1))) w') (bsp (decide ((↑n : Int) > (↑n_1 : Int))) (R (.returned (.int .i64 1)) w') (R (.returned (.int .i64 0)) w')))
theorem vc_xr12 (s : ByteArray) (t : ByteArray) (w : World) (R : Ending -> World -> Prop) (h : VC_xr12 s t w R) : Calls Tryz.prog 80 ([Value.string s, .string t] : List Value).toArray w R :=
 calls_of_exec2' (loops := [(3, [(7, Ck.int .i64)])]) (tails := []) (joins := []) (boxes := []) (rngs := []) (c := Tryz.f80.body.getD .skip) pur1_ok Tryz.func80 (by kernel_rfl) (by kernel_rfl) h
def VC_xbefore (id : Nat -> Int) (mo : Nat -> Int) (g : ByteArray) (t : ByteArray) (r : Int) (st : Int) (de : Int) (rs : ByteArray) (id2 : Nat -> Int) (mo2 : Nat -> Int) (g2 : ByteArray) (t2 : ByteArray) (r2 : Int) (st2 : Int) (de2 : Int) (rs2 : ByteArray) (w : World) (R : Ending -> World -> Prop) : Prop := ∀ (n n_1 : Nat), bsp (r != r2) (∀ (W : World), Loc w.heap.size [Blk.mk n_1 48 (arrI .u8 id2 32 0 ++ ([Value.string g2, .string t2, .int .i64 r2, .int .i64 st2] ++ arrI .u8 mo2 16 0 ++ [Value.int .i64 de2, .string rs2])) 2, Blk.mk n 48 (arrI .u8 id 32 0 ++ ([Value.string g, .string t, .int .i64 r, .int .i64 st] ++ arrI .u8 mo 16 0 ++ [Value.int .i64 de, .string rs])) 2] w W -> R (.returned (.bool (decide (r < r2)))) W) (∃ (r_1 : Bool), EqP Tryz.prog 32 (.agg (arrI .u8 id 32 0).toArray) (.agg (arrI .u8 id2 32 0).toArray) r_1 /\ bsp (!r_1) (∀ (W : World), Loc w.heap.size [Blk.mk n_1 48
 (arrI .u8 id2 32 0 ++ ([Value.string g2, .string t2, .int .i64 r2, .int .i64 st2] ++ arrI .u8 mo2 16 0 ++ [Value.int .i64 de2, .string rs2])) 2, Blk.mk n 48 (arrI .u8 id 32 0 ++ ([Value.string g, .string t, .int .i64 r, .int .i64 st] ++ arrI .u8 mo 16 0 ++ [Value.int .i64 de, .string rs])) 2] w W -> CallsS Tryz.prog 79 #[.agg (arrI .u8 id 32 0).toArray, .agg (arrI .u8 id2 32 0).toArray] W fun (e : Ending) (w' : World) => ∃ (x : Int), e = .returned (.int .i64 x) /\ KeptL [n_1, n] W w' /\ R (.returned (.bool (decide (x < 0)))) w') (∀ (W : World), Loc w.heap.size [Blk.mk n_1 48 (arrI .u8 id2 32 0 ++ ([Value.string g2, .string t2, .int .i64 r2, .int .i64 st2] ++ arrI .u8 mo2 16 0 ++ [Value.int .i64 de2, .string rs2])) 2, Blk.mk n 48 (arrI .u8 id 32 0 ++ ([Value.string g, .string t, .int .i64 r, .int .i64 st] ++ arrI .u8 mo 16 0 ++ [Value.int .i64 de, .string rs])) 2] w W ->
 CallsS Tryz.prog 80 #[.string g, .string g2] W fun (e : Ending) (w' : World) => ∃ (x : Int), e = .returned (.int .i64 x) /\ KeptL [n_1, n] W w' /\ R (.returned (.bool (decide (x < 0)))) w'))
theorem vc_xbefore (id : Nat -> Int) (mo : Nat -> Int) (g : ByteArray) (t : ByteArray) (r : Int) (st : Int) (de : Int) (rs : ByteArray) (id2 : Nat -> Int) (mo2 : Nat -> Int) (g2 : ByteArray) (t2 : ByteArray) (r2 : Int) (st2 : Int) (de2 : Int) (rs2 : ByteArray) (w : World) (R : Ending -> World -> Prop) (h : VC_xbefore id mo g t r st de rs id2 mo2 g2 t2 r2 st2 de2 rs2 w R) : Calls Tryz.prog 40 ([Value.agg (arrI .u8 id 32 0 ++ ([Value.string g, .string t, .int .i64 r, .int .i64 st] ++ (arrI .u8 mo 16 0 ++ [Value.int .i64 de, .string rs]))).toArray, .agg (arrI .u8 id2 32 0 ++ ([Value.string g2, .string t2, .int .i64 r2, .int .i64 st2] ++ (arrI .u8 mo2 16 0 ++ [Value.int .i64 de2, .string rs2]))).toArray] : List Value).toArray w R :=
 calls_of_exec2' (loops := []) (tails := []) (joins := []) (boxes := []) (rngs := []) (c := Tryz.f40.body.getD .skip) pur1_ok Tryz.func40 (by kernel_rfl) (by kernel_rfl) h
def VC_xmin (n : Int) (w : World) (R : Ending -> World -> Prop) : Prop := R (.returned (.bool (decide (n ≥ 0) && decide (n <= 105190559)))) w
theorem vc_xmin (n : Int) (w : World) (R : Ending -> World -> Prop) (h : VC_xmin n w R) : Calls Tryz.prog 36 ([Value.int .i64 n] : List Value).toArray w R :=
 calls_of_exec2' (loops := []) (tails := []) (joins := []) (boxes := []) (rngs := []) (c := Tryz.f36.body.getD .skip) pur1_ok Tryz.func36 (by kernel_rfl) (by kernel_rfl) h
def VC_xmods (m : Nat) (s : ByteArray) (w : World) (R : Ending -> World -> Prop) : Prop := ∃ (I : List Value -> World -> Prop) (m_1 : List Value -> World -> Nat), I [Value.int .i64 0] w /\ ∀ (x : Int) (w' : World), I [Value.int .i64 x] w' -> ∃ (p : Option Addr) (n : Nat) (c : Nat), w'.cell? (Addr.mk m (0 + 2) none) = some (.slice p n c) /\ bsp (decide (x < (↑n : Int))) (∃ (p : Option Addr) (n : Nat) (c : Nat), w'.cell? (Addr.mk m (0 + 2) none) = some (.slice p n c) /\ nn true p fun (b o : Nat) => (0 <= x /\ x < (↑n : Int)) /\ ∃ (x_1 : ByteArray), w'.cell? (Addr.mk b (o + x.toNat * 2) none) = some (.string x_1) /\ bsp (x_1.toList == s.toList) (∃ (p : Option Addr) (n : Nat) (c : Nat), w'.cell? (Addr.mk m (0 + 2) none) = some (.slice p n c) /\ nn true p fun (b o : Nat) => (0 <= x /\ x < (↑n : Int)) /\ ∃ (p : Option Addr) (n : Nat) (c : Nat),
 w'.cell? (Addr.mk b (o + x.toNat * 2 + 1) none) = some (.slice p n c) /\ R (.returned (.slice p n c)) w') (I [Value.int .i64 (IntKind.i64.wrap (x + 1))] w' /\ m_1 [Value.int .i64 (IntKind.i64.wrap (x + 1))] w' < m_1 [Value.int .i64 x] w')) (R (.returned (.slice none 0 0)) w')
theorem vc_xmods (m : Nat) (s : ByteArray) (w : World) (R : Ending -> World -> Prop) (h : VC_xmods m s w R) : Calls Tryz.prog 55 ([Value.pointer (some { block := m, off := 0 }), .string s] : List Value).toArray w R :=
 calls_of_exec2' (loops := [(2, [(5, Ck.int .i64)])]) (tails := []) (joins := []) (boxes := []) (rngs := []) (c := Tryz.f55.body.getD .skip) pur1_ok Tryz.func55 (by kernel_rfl) (by kernel_rfl) h
def VC_xis (m : Nat) (s : ByteArray) (a : Nat -> Int) (w : World) (R : Ending -> World -> Prop) : Prop := ∀ (n : Nat) (W : World), Loc w.heap.size [Blk.mk n 45 (arrI .u8 a 16 0) 2] w W -> CallsS Tryz.prog 55 #[.pointer (some (Addr.mk m 0 none)), .string s] W fun (e : Ending) (w' : World) => ∃ (p : Option Addr) (n_1 : Nat) (c : Nat), e = .returned (.slice p n_1 c) /\ KeptL [n] W w' /\ ∃ (I : List Value -> World -> Prop) (m : List Value -> World -> Nat), I [Value.int .i64 0] w' /\ ∀ (x : Int) (w' : World), I [Value.int .i64 x] w' -> Loc w.heap.size [Blk.mk n 45 (arrI .u8 a 16 0) 0] w' w' -> bsp (decide (x < (↑n_1 : Int))) (nn true p fun (b o : Nat) => (0 <= x /\ x < (↑n_1 : Int)) /\ ∃ (f : Nat -> Int), (∀ (W : World), Loc w.heap.size [Blk.mk n 45 (arrI .u8 a 16 0) 0] w' W -> AtL W b (o + x.toNat * 16) (arrI .u8 f 16 0)) /\ ∃ (r : Bool), EqP Tryz.prog 45 (.agg
 (arrI .u8 f 16 0).toArray) (.agg (arrI .u8 a 16 0).toArray) r /\ bsp r (∀ (W : World), Loc w.heap.size [Blk.mk n 45 (arrI .u8 a 16 0) 0] w' W -> R (.returned (.bool true)) W) (∀ (W : World), Loc w.heap.size [Blk.mk n 45 (arrI .u8 a 16 0) 0] w' W -> I [Value.int .i64 (IntKind.i64.wrap (x + 1))] W /\ m [Value.int .i64 (IntKind.i64.wrap (x + 1))] W < m [Value.int .i64 x] w')) (R (.returned (.bool false)) w')
theorem vc_xis (m : Nat) (s : ByteArray) (a : Nat -> Int) (w : World) (R : Ending -> World -> Prop) (h : VC_xis m s a w R) : Calls Tryz.prog 37 ([Value.pointer (some { block := m, off := 0 }), .string s, .agg (arrI .u8 a 16 0).toArray] : List Value).toArray w R :=
 calls_of_exec2' (loops := [(3, [(8, Ck.int .i64)])]) (tails := []) (joins := []) (boxes := []) (rngs := []) (c := Tryz.f37.body.getD .skip) pur1_ok Tryz.func37 (by kernel_rfl) (by kernel_rfl) h
def VC_xfind (m : Nat) (i : Nat -> Int) (s : ByteArray) (w : World) (R : Ending -> World -> Prop) : Prop := ∀ (n : Nat) (W : World), Loc w.heap.size [Blk.mk n 32 (arrI .u8 i 32 0) 2] w W -> ∃ (I : List Value -> World -> Prop) (m_1 : List Value -> World -> Nat), I [Value.int .i64 0] W /\ ∀ (x : Int) (w' : World), I [Value.int .i64 x] w' -> Loc w.heap.size [Blk.mk n 32 (arrI .u8 i 32 0) 0] w' w' -> ∃ (p : Option Addr) (n_1 : Nat) (c : Nat), w'.cell? (Addr.mk m (0 + 3) none) = some (.slice p n_1 c) /\ bsp (decide (x < (↑n_1 : Int))) (∃ (p : Option Addr) (n_2 : Nat) (c : Nat), (∀ (W : World), Loc w.heap.size [Blk.mk n 32 (arrI .u8 i 32 0) 0] w' W -> W.cell? (Addr.mk m (0 + 3) none) = some (.slice p n_2 c)) /\ nn true p fun (b o : Nat) => (0 <= x /\ x < (↑n_2 : Int)) /\ ∃ (f : Nat -> Int), (∀ (W : World), Loc w.heap.size [Blk.mk n 32 (arrI .u8 i 32 0) 0] w' W ->
 AtL W b (o + x.toNat * 72) (arrI .u8 f 32 0)) /\ ∃ (r : Bool), EqP Tryz.prog 32 (.agg (arrI .u8 f 32 0).toArray) (.agg (arrI .u8 i 32 0).toArray) r /\ ∃ (p : Option Addr) (n_3 : Nat) (c : Nat), gimp r (∀ (W : World), Loc w.heap.size [Blk.mk n 32 (arrI .u8 i 32 0) 0] w' W -> W.cell? (Addr.mk m (0 + 3) none) = some (.slice p n_3 c)) /\ nn r p fun (b o : Nat) => gimp r (0 <= x /\ x < (↑n_3 : Int)) /\ ∃ (x_1 : ByteArray), gimp r (∀ (W : World), Loc w.heap.size [Blk.mk n 32 (arrI .u8 i 32 0) 0] w' W -> W.cell? (Addr.mk b (o + x.toNat * 72 + 32) none) = some (.string x_1)) /\ bsp (r && x_1.toList == s.toList) (∀ (W : World), Loc w.heap.size [Blk.mk n 32 (arrI .u8 i 32 0) 0] w' W -> R (.returned (.int .i64 x)) W) (∀ (W : World), Loc w.heap.size [Blk.mk n 32 (arrI .u8 i 32 0) 0] w' W -> I [Value.int .i64 (IntKind.i64.wrap (x + 1))] W /\ m_1 [Value.int .i64 (IntKind.i64.wrap (x + 1))] W <
 m_1 [Value.int .i64 x] w')) (R (.returned (.int .i64 (-1))) w')
theorem vc_xfind (m : Nat) (i : Nat -> Int) (s : ByteArray) (w : World) (R : Ending -> World -> Prop) (h : VC_xfind m i s w R) : Calls Tryz.prog 56 ([Value.pointer (some { block := m, off := 0 }), .agg (arrI .u8 i 32 0).toArray, .string s] : List Value).toArray w R :=
 calls_of_exec2' (loops := [(2, [(7, Ck.int .i64)])]) (tails := []) (joins := []) (boxes := []) (rngs := []) (c := Tryz.f56.body.getD .skip) pur1_ok Tryz.func56 (by kernel_rfl) (by kernel_rfl) h
def VC_xlist (m : Nat) (s : ByteArray) (st : Int) (w : World) (R : Ending -> World -> Prop) : Prop := ∃ (I : List Value -> World -> Prop) (m_1 : List Value -> World -> Nat), I [Value.int .i64 0, .slice none 0 0] w /\ ∀ (x : Int) (p : Option Addr) (n c : Nat) (w' : World), I [Value.int .i64 x, .slice p n c] w' -> ∃ (p_1 : Option Addr) (n_1 : Nat) (c_1 : Nat), w'.cell? (Addr.mk m (0 + 3) none) = some (.slice p_1 n_1 c_1) /\ bsp (decide (x < (↑n_1 : Int))) (∃ (p_2 : Option Addr) (n_2 : Nat) (c_2 : Nat), gimp (!s.toList == []) (w'.cell? (Addr.mk m (0 + 3) none) = some (.slice p_2 n_2 c_2)) /\ nn (!s.toList == []) p_2 fun (b o : Nat) => gimp (!s.toList == []) (0 <= x /\ x < (↑n_2 : Int)) /\ ∃ (x_1 : ByteArray), gimp (!s.toList == []) (w'.cell? (Addr.mk b (o + x.toNat * 72 + 32) none) = some (.string x_1)) /\ ∃ (p_3 : Option Addr) (n_3 : Nat) (c_3 : Nat),
 gimp (s.toList == [] || x_1.toList == s.toList) (w'.cell? (Addr.mk m (0 + 3) none) = some (.slice p_3 n_3 c_3)) /\ nn (s.toList == [] || x_1.toList == s.toList) p_3 fun (b o : Nat) => gimp (s.toList == [] || x_1.toList == s.toList) (0 <= x /\ x < (↑n_3 : Int)) /\ ∃ (x_2 : Int), gimp (s.toList == [] || x_1.toList == s.toList) (w'.cell? (Addr.mk b (o + x.toNat * 72 + 35) none) = some (.int .i64 x_2)) /\ bsp ((s.toList == [] || x_1.toList == s.toList) && x_2 == st) (∃ (p_4 : Option Addr) (n_4 : Nat) (c_4 : Nat), w'.cell? (Addr.mk m (0 + 3) none) = some (.slice p_4 n_4 c_4) /\ nn true p_4 fun (b o : Nat) => (0 <= x /\ x < (↑n_4 : Int)) /\ ∃ (f : Nat -> Int) (x_3 : ByteArray), ∃ (x_4 : ByteArray) (x_5 : Int), ∃ (x_6 : Int) (f_1 : Nat -> Int), ∃ (x_7 : Int) (x_8 : ByteArray), AtL w' b (o + x.toNat * 72) (arrI .u8 f 32 0 ++ ([Value.string x_3,
 .string x_4, .int .i64 x_5, .int .i64 x_6] ++ arrI .u8 f_1 16 0 ++ [Value.int .i64 x_7, .string x_8])) /\ ∀ (n_5 : Nat) (W : World), Loc w.heap.size [Blk.mk n_5 48 (arrI .u8 f 32 0 ++ ([Value.string x_3, .string x_4, .int .i64 x_5, .int .i64 x_6] ++ arrI .u8 f_1 16 0 ++ [Value.int .i64 x_7, .string x_8])) 2] w' W -> ∃ (base : Nat) (xs : List Value), W.ownsRow base 48 54 (.slice p n c) n xs /\ n + 1 <= 9223372036854775807 /\ (n + 1) * 120 <= 140737488355328 /\ base <= W.heap.size /\ ∀ (p' : Option Addr) (c' : Nat) (w'_1 : World), w'_1.ownsRow base 48 54 (.slice p' (n + 1) c') (n + 1) (xs ++ (arrI .u8 f 32 0 ++ ([Value.string x_3, .string x_4, .int .i64 x_5, .int .i64 x_6] ++ arrI .u8 f_1 16 0 ++ [Value.int .i64 x_7, .string x_8]))) -> W.grownBy w'_1 (Value.slice p n c).ownBlock -> AppL W p n c 1 p' c' -> KeptL [] W w'_1 /\ I [Value.int .i64 (IntKind.i64.wrap (x + 1)),
 .slice p' (n + 1) c'] w'_1 /\ m_1 [Value.int .i64 (IntKind.i64.wrap (x + 1)), .slice p' (n + 1) c'] w'_1 < m_1 [Value.int .i64 x, .slice p n c] w') (I [Value.int .i64 (IntKind.i64.wrap (x + 1)), .slice p n c] w' /\ m_1 [Value.int .i64 (IntKind.i64.wrap (x + 1)), .slice p n c] w' < m_1 [Value.int .i64 x, .slice p n c] w')) (R (.returned (.slice p n c)) w')
theorem vc_xlist (m : Nat) (s : ByteArray) (st : Int) (w : World) (R : Ending -> World -> Prop) (h : VC_xlist m s st w R) : Calls Tryz.prog 57 ([Value.pointer (some { block := m, off := 0 }), .string s, .int .i64 st] : List Value).toArray w R :=
 calls_of_exec2' (loops := [(3, [(8, Ck.int .i64), (7, Ck.slice)])]) (tails := []) (joins := []) (boxes := []) (rngs := []) (c := Tryz.f57.body.getD .skip) pur1_ok Tryz.func57 (by kernel_rfl) (by kernel_rfl) h
def VC_xholder (id : Nat -> Int) (mo : Nat -> Int) (g : ByteArray) (t : ByteArray) (r : Int) (st : Int) (de : Int) (rs : ByteArray) (le : Bool) (ho : Nat -> Int) (si : Int) (now : Int) (w : World) (R : Ending -> World -> Prop) : Prop := ∀ (n n_1 : Nat), ∃ (x : Bool), gimp (!st != 0) (∀ (W : World), Loc w.heap.size [Blk.mk n_1 45 [Value.int .u8 0, .int .u8 0, .int .u8 0, .int .u8 0, .int .u8 0, .int .u8 0, .int .u8 0, .int .u8 0, .int .u8 0, .int .u8 0, .int .u8 0, .int .u8 0, .int .u8 0, .int .u8 0, .int .u8 0, .int .u8 0] 2, Blk.mk n 91 (arrI .u8 id 32 0 ++ ([Value.string g, .string t, .int .i64 r, .int .i64 st] ++ arrI .u8 mo 16 0 ++ ([Value.int .i64 de, .string rs, .bool le] ++ arrI .u8 ho 16 0 ++ [Value.int .i64 si]))) 2] w W -> W.cell? (Addr.mk n (0 + 54) none) = some (.bool x)) /\ ∃ (x_1 : Int), gimp (!(st != 0 || !x)) (∀ (W : World), Loc w.heap.size [Blk.mk n_1 45
 [Value.int .u8 0, .int .u8 0, .int .u8 0, .int .u8 0, .int .u8 0, .int .u8 0, .int .u8 0, .int .u8 0, .int .u8 0, .int .u8 0, .int .u8 0, .int .u8 0, .int .u8 0, .int .u8 0, .int .u8 0, .int .u8 0] 2, Blk.mk n 91 (arrI .u8 id 32 0 ++ ([Value.string g, .string t, .int .i64 r, .int .i64 st] ++ arrI .u8 mo 16 0 ++ ([Value.int .i64 de, .string rs, .bool le] ++ arrI .u8 ho 16 0 ++ [Value.int .i64 si]))) 2] w W -> W.cell? (Addr.mk n (0 + 71) none) = some (.int .i64 x_1)) /\ ∃ (x_2 : Int), gimp (!(st != 0 || !x || decide (now < x_1))) (∀ (W : World), Loc w.heap.size [Blk.mk n_1 45 [Value.int .u8 0, .int .u8 0, .int .u8 0, .int .u8 0, .int .u8 0, .int .u8 0, .int .u8 0, .int .u8 0, .int .u8 0, .int .u8 0, .int .u8 0, .int .u8 0, .int .u8 0, .int .u8 0, .int .u8 0, .int .u8 0] 2, Blk.mk n 91 (arrI .u8 id 32 0 ++ ([Value.string g, .string t,
 .int .i64 r, .int .i64 st] ++ arrI .u8 mo 16 0 ++ ([Value.int .i64 de, .string rs, .bool le] ++ arrI .u8 ho 16 0 ++ [Value.int .i64 si]))) 2] w W -> W.cell? (Addr.mk n (0 + 71) none) = some (.int .i64 x_2)) /\ bsp (st != 0 || !x || decide (now < x_1) || decide (now ≥ IntKind.i64.wrap (x_2 + 60))) (∀ (W : World), Loc w.heap.size [Blk.mk n_1 45 [Value.int .u8 0, .int .u8 0, .int .u8 0, .int .u8 0, .int .u8 0, .int .u8 0, .int .u8 0, .int .u8 0, .int .u8 0, .int .u8 0, .int .u8 0, .int .u8 0, .int .u8 0, .int .u8 0, .int .u8 0, .int .u8 0] (wrM 2), Blk.mk n 91 (arrI .u8 id 32 0 ++ ([Value.string g, .string t, .int .i64 r, .int .i64 st] ++ arrI .u8 mo 16 0 ++ ([Value.int .i64 de, .string rs, .bool le] ++ arrI .u8 ho 16 0 ++ [Value.int .i64 si]))) 2] w W -> R (.returned (.tuple #[.agg #[.int .u8 0, .int .u8 0, .int .u8 0, .int .u8 0, .int .u8 0, .int .u8 0, .int .u8 0, .int .u8 0,
 .int .u8 0, .int .u8 0, .int .u8 0, .int .u8 0, .int .u8 0, .int .u8 0, .int .u8 0, .int .u8 0], .bool false])) W) (∀ (W : World), Loc w.heap.size [Blk.mk n_1 45 (arrI .u8 ho 16 0) (wrM 2), Blk.mk n 91 (arrI .u8 id 32 0 ++ ([Value.string g, .string t, .int .i64 r, .int .i64 st] ++ arrI .u8 mo 16 0 ++ ([Value.int .i64 de, .string rs, .bool le] ++ arrI .u8 ho 16 0 ++ [Value.int .i64 si]))) 2] w W -> R (.returned (.tuple #[.agg (arrI .u8 ho 16 0).toArray, .bool true])) W)
theorem vc_xholder (id : Nat -> Int) (mo : Nat -> Int) (g : ByteArray) (t : ByteArray) (r : Int) (st : Int) (de : Int) (rs : ByteArray) (le : Bool) (ho : Nat -> Int) (si : Int) (now : Int) (w : World) (R : Ending -> World -> Prop) (h : VC_xholder id mo g t r st de rs le ho si now w R) : Calls Tryz.prog 60 ([Value.agg (arrI .u8 id 32 0 ++ ([Value.string g, .string t, .int .i64 r, .int .i64 st] ++ (arrI .u8 mo 16 0 ++ ([Value.int .i64 de, .string rs, .bool le] ++ (arrI .u8 ho 16 0 ++ [Value.int .i64 si]))))).toArray, .int .i64 now] : List Value).toArray w R :=
 calls_of_exec2' (loops := []) (tails := []) (joins := []) (boxes := []) (rngs := []) (c := Tryz.f60.body.getD .skip) pur1_ok Tryz.func60 (by kernel_rfl) (by kernel_rfl) h
def VC_xcomm (i : Nat -> Int) (s : ByteArray) (er : Int) (w : World) (R : Ending -> World -> Prop) : Prop := ∀ (n n_1 : Nat), bsp (er != 0) (∀ (W : World), Loc w.heap.size [Blk.mk n_1 42 [Value.int .i64 0, .int .u8 0, .int .u8 0, .int .u8 0, .int .u8 0, .int .u8 0, .int .u8 0, .int .u8 0, .int .u8 0, .int .u8 0, .int .u8 0, .int .u8 0, .int .u8 0, .int .u8 0, .int .u8 0, .int .u8 0, .int .u8 0, .int .u8 0, .int .u8 0, .int .u8 0, .int .u8 0, .int .u8 0, .int .u8 0, .int .u8 0, .int .u8 0, .int .u8 0, .int .u8 0, .int .u8 0, .int .u8 0, .int .u8 0, .int .u8 0, .int .u8 0, .int .u8 0, .string (ByteArray.mk #[]), .int .i64 0, .bool false, .slice none 0 0, .string (ByteArray.mk #[]), .int .i64 0, .int .i64 0, .int .u8 0, .int .u8 0, .int .u8 0, .int .u8 0, .int .u8 0, .int .u8 0, .int .u8 0, .int .u8 0, .int .u8 0, .int .u8 0, .int .u8 0, .int .u8 0,
 .int .u8 0, .int .u8 0, .int .u8 0, .int .u8 0] (wrM 2), Blk.mk n 32 (arrI .u8 i 32 0) 2] w W -> R (.returned (.agg #[.int .i64 0, .int .u8 0, .int .u8 0, .int .u8 0, .int .u8 0, .int .u8 0, .int .u8 0, .int .u8 0, .int .u8 0, .int .u8 0, .int .u8 0, .int .u8 0, .int .u8 0, .int .u8 0, .int .u8 0, .int .u8 0, .int .u8 0, .int .u8 0, .int .u8 0, .int .u8 0, .int .u8 0, .int .u8 0, .int .u8 0, .int .u8 0, .int .u8 0, .int .u8 0, .int .u8 0, .int .u8 0, .int .u8 0, .int .u8 0, .int .u8 0, .int .u8 0, .int .u8 0, .string (ByteArray.mk #[]), .int .i64 0, .bool false, .slice none 0 0, .string (ByteArray.mk #[]), .int .i64 0, .int .i64 0, .int .u8 0, .int .u8 0, .int .u8 0, .int .u8 0, .int .u8 0, .int .u8 0, .int .u8 0, .int .u8 0, .int .u8 0, .int .u8 0, .int .u8 0, .int .u8 0, .int .u8 0, .int .u8 0, .int .u8 0, .int .u8 0])) W) (∀ (W : World), Loc w.heap.size [Blk.mk n_1 42
 ([Value.int .i64 2] ++ arrI .u8 i 32 0 ++ [Value.string s, .int .i64 0, .bool false, .slice none 0 0, .string (ByteArray.mk #[]), .int .i64 0, .int .i64 0, .int .u8 0, .int .u8 0, .int .u8 0, .int .u8 0, .int .u8 0, .int .u8 0, .int .u8 0, .int .u8 0, .int .u8 0, .int .u8 0, .int .u8 0, .int .u8 0, .int .u8 0, .int .u8 0, .int .u8 0, .int .u8 0]) (wrM 2), Blk.mk n 32 (arrI .u8 i 32 0) 2] w W -> R (.returned (.agg ([Value.int .i64 2] ++ arrI .u8 i 32 0 ++ [Value.string s, .int .i64 0, .bool false, .slice none 0 0, .string (ByteArray.mk #[]), .int .i64 0, .int .i64 0, .int .u8 0, .int .u8 0, .int .u8 0, .int .u8 0, .int .u8 0, .int .u8 0, .int .u8 0, .int .u8 0, .int .u8 0, .int .u8 0, .int .u8 0, .int .u8 0, .int .u8 0, .int .u8 0, .int .u8 0, .int .u8 0]).toArray)) W)
theorem vc_xcomm (i : Nat -> Int) (s : ByteArray) (er : Int) (w : World) (R : Ending -> World -> Prop) (h : VC_xcomm i s er w R) : Calls Tryz.prog 23 ([Value.agg (arrI .u8 i 32 0).toArray, .string s, .int .i64 er] : List Value).toArray w R :=
 calls_of_exec2' (loops := []) (tails := []) (joins := []) (boxes := []) (rngs := []) (c := Tryz.f23.body.getD .skip) pur1_ok Tryz.func23 (by kernel_rfl) (by kernel_rfl) h
def VC_xsame (p : Option Addr) (n : Nat) (c : Nat) (q : Option Addr) (k : Nat) (d : Nat) (w : World) (R : Ending -> World -> Prop) : Prop := bsp ((↑n : Int) != (↑k : Int)) (R (.returned (.bool false)) w) (∃ (I : List Value -> World -> Prop) (m : List Value -> World -> Nat), I [Value.int .i64 0] w /\ ∀ (x : Int) (w' : World), I [Value.int .i64 x] w' -> bsp (decide (x < (↑n : Int))) (nn true p fun (b o : Nat) => (0 <= x /\ x < (↑n : Int)) /\ ∃ (f : Nat -> Int) (x_1 : ByteArray), ∃ (x_2 : ByteArray) (x_3 : Int), ∃ (x_4 : Int) (f_1 : Nat -> Int), ∃ (x_5 : Int) (x_6 : ByteArray), (∀ (W : World), Loc w.heap.size [] w' W -> AtL W b (o + x.toNat * 54) (arrI .u8 f 32 0 ++ ([Value.string x_1, .string x_2, .int .i64 x_3, .int .i64 x_4] ++ arrI .u8 f_1 16 0 ++ [Value.int .i64 x_5, .string x_6]))) /\ nn true q fun (b o : Nat) => (0 <= x /\ x < (↑k : Int)) /\ ∃ (f_2 : Nat -> Int),
 ∃ (x_7 : ByteArray) (x_8 : ByteArray), ∃ (x_9 : Int) (x_10 : Int), ∃ (f_3 : Nat -> Int) (x_11 : Int) (x_12 : ByteArray), (∀ (W : World), Loc w.heap.size [] w' W -> AtL W b (o + x.toNat * 54) (arrI .u8 f_2 32 0 ++ ([Value.string x_7, .string x_8, .int .i64 x_9, .int .i64 x_10] ++ arrI .u8 f_3 16 0 ++ [Value.int .i64 x_11, .string x_12]))) /\ ∃ (r : Bool), EqP Tryz.prog 48 (.agg (arrI .u8 f 32 0 ++ ([Value.string x_1, .string x_2, .int .i64 x_3, .int .i64 x_4] ++ arrI .u8 f_1 16 0 ++ [Value.int .i64 x_5, .string x_6])).toArray) (.agg (arrI .u8 f_2 32 0 ++ ([Value.string x_7, .string x_8, .int .i64 x_9, .int .i64 x_10] ++ arrI .u8 f_3 16 0 ++ [Value.int .i64 x_11, .string x_12])).toArray) r /\ bsp (!r) (∀ (W : World), Loc w.heap.size [] w' W -> R (.returned (.bool false)) W) (∀ (W : World), Loc w.heap.size [] w' W -> I [Value.int .i64 (IntKind.i64.wrap (x + 1))] W /\
 m [Value.int .i64 (IntKind.i64.wrap (x + 1))] W < m [Value.int .i64 x] w')) (R (.returned (.bool true)) w'))
theorem vc_xsame (p : Option Addr) (n : Nat) (c : Nat) (q : Option Addr) (k : Nat) (d : Nat) (w : World) (R : Ending -> World -> Prop) (h : VC_xsame p n c q k d w R) : Calls Tryz.prog 34 ([Value.slice p n c, .slice q k d] : List Value).toArray w R :=
 calls_of_exec2' (loops := [(4, [(5, Ck.int .i64)])]) (tails := []) (joins := []) (boxes := []) (rngs := []) (c := Tryz.f34.body.getD .skip) pur1_ok Tryz.func34 (by kernel_rfl) (by kernel_rfl) h
end Go.Proofs.YtfacflbmlfbeeaaGreatDoor
