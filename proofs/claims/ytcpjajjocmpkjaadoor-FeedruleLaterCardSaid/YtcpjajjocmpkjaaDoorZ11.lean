/- The formulas of functions by the symbolic evaluator, and that each gives the call's contract. Written by a program (gen.py). No condition. -/
import Derived.Test.YtcpjajjocmpkjaaDoorProg
import Derived.Test.YtcpjajjocmpkjaaDoorZ02
import Derived.Test.YtcpjajjocmpkjaaDoorZ04
import Derived.KernelRfl
import Derived.Test.YtcpjajjocmpkjaaDoorZ10
import Derived.Test.YtcpjajjocmpkjaaDoorZ09
namespace Go.Proofs.YtcpjajjocmpkjaaDoor
set_option maxRecDepth 100000
set_option linter.unusedVariables false

def VC_lto (nb : ByteArray) (ps : ByteArray) (mb : Int) (dl : Int) (p : Option Addr) (n : Nat) (c : Nat) (w : World) (R : Ending → World → Prop) : Prop :=
 ∃ (J : List Value → World → Prop),
 (∀ (n_1 : Nat) (w1 : World),
 NewB w
 (Obj.cells
 #[Value.string nb, Value.string ps, Value.int IntKind.i64 mb, Value.int IntKind.i64 dl, Value.slice p n c] 24)
 n_1 w1 →
 ∀ (n : Nat) (w1_1 : World),
 NewB w1
 (Obj.cells
 #[Value.string (ByteArray.mk #[]), Value.string (ByteArray.mk #[]), Value.int IntKind.i64 0,
 Value.int IntKind.i64 0, Value.slice none 0 0]
 28)
 n w1_1 →
 ∀ (n_2 : Nat) (w1 : World),
 NewB w1_1
 (Obj.cells
 #[Value.string (ByteArray.mk #[]), Value.string (ByteArray.mk #[]), Value.int IntKind.i64 0,
 Value.int IntKind.i64 0, Value.slice none 0 0]
 24)
 n_2 w1 →
 ∃ (S : World → Prop),
 S w1.drew ∧
 ∃ (x : ByteArray),
 (∀ (w' : World), S w' → w'.cell? (Addr.mk n_1 0 none) = some (Value.string x)) ∧
 ∃ (x_1 : ByteArray),
 (∀ (w' : World), S w' → w'.cell? (Addr.mk n_1 0 none) = some (Value.string x_1)) ∧
 ((0 ≤ if 40 < (↑x_1.size : Int) then 40 else (↑x_1.size : Int)) ∧
 (if 40 < (↑x_1.size : Int) then 40 else (↑x_1.size : Int)) ≤ (↑x.size : Int)) ∧
 ∃ (x_2 : ByteArray),
 (∀ (w' : World), S w' → w'.cell? (Addr.mk n_1 (0 + 1) none) = some (Value.string x_2)) ∧
 ∃ (x_3 : ByteArray),
 (∀ (w' : World), S w' → w'.cell? (Addr.mk n_1 (0 + 1) none) = some (Value.string x_3)) ∧
 ((0 ≤ if 300 < (↑x_3.size : Int) then 300 else (↑x_3.size : Int)) ∧
 (if 300 < (↑x_3.size : Int) then 300 else (↑x_3.size : Int)) ≤ (↑x_2.size : Int)) ∧
 ∃ (x_4 : Int),
 (∀ (w' : World), S w' → w'.cell? (Addr.mk n_1 (0 + 2) none) = some (Value.int IntKind.i64 x_4)) ∧
 ∃ (x_5 : Int),
 (∀ (w' : World), S w' → w'.cell? (Addr.mk n_1 (0 + 3) none) = some (Value.int IntKind.i64 x_5)) ∧
 ∀ (n_3 : Nat) (w1_2 : World),
 NewB w1.drew
 (Obj.cells
 #[Value.string (ByteArray.mk #[]), Value.string (ByteArray.mk #[]), Value.int IntKind.i64 0,
 Value.int IntKind.i64 0, Value.slice none 0 0]
 24)
 n_3 w1_2 →
 S w1_2 ∧
 WrL w1_2 n_3 0 5 ∧
 ∀ (w1 : World),
 PutB w1_2 n_3 0
 [Value.string
 (x.extract 0 (if 40 < (↑x_1.size : Int) then 40 else (↑x_1.size : Int)).toNat),
 Value.string
 (x_2.extract 0 (if 300 < (↑x_3.size : Int) then 300 else (↑x_3.size : Int)).toNat),
 Value.int IntKind.i64 x_4, Value.int IntKind.i64 x_5, Value.slice none 0 0]
 w1 →
 ∃ (I : List Value → World → Prop),
 ∃ (m : List Value → World → Nat),
 I [Value.int IntKind.i64 0] w1 ∧
 ∀ (x : Int) (w' : World),
 I [Value.int IntKind.i64 x] w' →
 ∃ (p : Option Addr),
 ∃ (n_4 : Nat),
 ∃ (c : Nat),
 w'.cell? (Addr.mk n_1 (0 + 4) none) = some (Value.slice p n_4 c) ∧
 bsp (decide (x < (↑n_4 : Int)) && decide (x < 10))
 (∃ (S : World → Prop),
 S w'.drew ∧
 ∃ (p : Option Addr),
 ∃ (n : Nat),
 ∃ (c : Nat),
 (∀ (w' : World),
 S w' → w'.cell? (Addr.mk n_3 (0 + 4) none) = some (Value.slice p n c)) ∧
 ∃ (p_1 : Option Addr),
 ∃ (n_5 : Nat),
 ∃ (c_1 : Nat),
 (∀ (w' : World),
 S w' →
 w'.cell? (Addr.mk n_1 (0 + 4) none) =
 some (Value.slice p_1 n_5 c_1)) ∧
 nn true p_1 fun (b o : Nat) =>
 (0 ≤ x ∧ x < (↑n_5 : Int)) ∧
 ∃ (x_6 : ByteArray),
 (∀ (w' : World),
 S w' →
 w'.cell? (Addr.mk b (o + x.toNat) none) =
 some (Value.string x_6)) ∧
 ∀ (n_6 : Nat) (w1 : World),
 NewB w'.drew (Obj.cells #[Value.string x_6] 9) n_6 w1 →
 S w1 ∧
 ∃ (base : Nat),
 ∃ (xs : List Value),
 ∃ (news : List Value),
 w1.ownsRow base 9 1 (Value.slice p n c) n xs ∧
 news.length = 1 ∧
 SrcP w1 (some (Addr.mk n_6 0 none)) news ∧
 n + 1 ≤ 9223372036854775807 ∧
 (n + 1) * 16 ≤ 140737488355328 ∧
 base ≤ w1.heap.size ∧
 ∀ (p' : Option Addr) (c' : Nat) (w'_1 : World),
 w'_1.ownsRow base 9 1 (Value.slice p' (n + 1) c')
 (n + 1) (xs ++ news) →
 w1.grownBy w'_1 (Value.slice p n c).ownBlock →
 ((∃ (u : Value),
 w'_1.cell? (Addr.mk n_3 (0 + 4) none) =
 some u) ∧
 w'_1.frozen? (Addr.mk n_3 (0 + 4) none) =
 false) ∧
 ∀ (w1 : World),
 PutB w'_1 n_3 (0 + 4) [Value.slice p' (n + 1) c']
 w1 →
 I
 [Value.int IntKind.i64
 (IntKind.i64.wrap (x + 1))]
 w1 ∧
 m
 [Value.int IntKind.i64
 (IntKind.i64.wrap (x + 1))]
 w1 <
 m [Value.int IntKind.i64 x] w')
 (∃ (S : World → Prop),
 S w'.drew ∧
 ∃ (x : ByteArray),
 (∀ (w' : World),
 S w' → w'.cell? (Addr.mk n_3 0 none) = some (Value.string x)) ∧
 ∃ (x_6 : ByteArray),
 (∀ (w' : World),
 S w' → w'.cell? (Addr.mk n_3 (0 + 1) none) = some (Value.string x_6)) ∧
 ∃ (x_7 : Int),
 (∀ (w' : World),
 S w' →
 w'.cell? (Addr.mk n_3 (0 + 2) none) =
 some (Value.int IntKind.i64 x_7)) ∧
 ∃ (x_8 : Int),
 (∀ (w' : World),
 S w' →
 w'.cell? (Addr.mk n_3 (0 + 3) none) =
 some (Value.int IntKind.i64 x_8)) ∧
 ∃ (p : Option Addr),
 ∃ (n_5 : Nat),
 ∃ (c : Nat),
 (∀ (w' : World),
 S w' →
 w'.cell? (Addr.mk n_3 (0 + 4) none) =
 some (Value.slice p n_5 c)) ∧
 ∃ (x_9 : ByteArray),
 ∃ (x_10 : ByteArray),
 ∃ (x_11 : Int),
 ∃ (x_12 : Int),
 ∃ (p_1 : Option Addr),
 ∃ (n_6 : Nat),
 ∃ (c : Nat),
 (∀ (w' : World),
 S w' →
 AtL w' n_3 0
 [Value.string x_9, Value.string x_10,
 Value.int IntKind.i64 x_11,
 Value.int IntKind.i64 x_12, Value.slice p_1 n_6 c]) ∧
 ∀ (n_7 : Nat) (w1 : World),
 NewB w'.drew (Obj.cells #[] 9) n_7 w1 →
 S w1 ∧
 ∃ (base : Nat),
 ∃ (xs : List Value),
 ∃ (news : List Value),
 w1.ownsRow base 9 1
 (Value.slice (some (Addr.mk n_7 0 none)) 0 0) 0
 xs ∧
 news.length = n_5 * 1 ∧
 SrcP w1 p news ∧
 0 + n_5 ≤ 9223372036854775807 ∧
 (0 + n_5) * 16 ≤ 140737488355328 ∧
 base ≤ w1.heap.size ∧
 ∀ (p' : Option Addr) (c' : Nat) (w' : World),
 w'.ownsRow base 9 1
 (Value.slice p' (0 + n_5) c') (0 + n_5)
 (xs ++ news) →
 w1.grownBy w'
 (Value.slice (some (Addr.mk n_7 0 none)) 0
 0).ownBlock →
 S w' ∧
 WrL w' n 0 5 ∧
 ∀ (w1 : World),
 PutB w' n 0
 [Value.string x, Value.string x_6,
 Value.int IntKind.i64 x_7,
 Value.int IntKind.i64 x_8,
 Value.slice p' (0 + n_5) c']
 w1 →
 S w1 ∧
 WrL w1 n_2 0 5 ∧
 ∀ (w1_3 : World),
 PutB w1 n_2 0
 [Value.string x_9,
 Value.string x_10,
 Value.int IntKind.i64 x_11,
 Value.int IntKind.i64 x_12,
 Value.slice p_1 n_6 c]
 w1_3 →
 J
 [Value.pointer
 (some (Addr.mk n 0 none)),
 Value.pointer
 (some (Addr.mk n_2 0 none))]
 w1_3)) ∧
 ∀ (x x_1 : Option Addr) (w' : World),
 J [Value.pointer x, Value.pointer x_1] w' →
 nn true x fun (b o : Nat) =>
 ∃ (x : ByteArray),
 ∃ (x_2 : ByteArray),
 ∃ (x_3 : Int),
 ∃ (x_4 : Int),
 ∃ (p : Option Addr),
 ∃ (n : Nat),
 ∃ (c : Nat),
 AtL w' b o
 [Value.string x, Value.string x_2, Value.int IntKind.i64 x_3, Value.int IntKind.i64 x_4,
 Value.slice p n c] ∧
 nn true x_1 fun (b o : Nat) =>
 ∃ (x_5 : ByteArray),
 ∃ (x_6 : ByteArray),
 ∃ (x_7 : Int),
 ∃ (x_8 : Int),
 ∃ (p_1 : Option Addr),
 ∃ (n_1 : Nat),
 ∃ (c_1 : Nat),
 AtL w' b o
 [Value.string x_5, Value.string x_6, Value.int IntKind.i64 x_7, Value.int IntKind.i64 x_8,
 Value.slice p_1 n_1 c_1] ∧
 R
 (Ending.returned
 (Value.tuple
 #[Value.agg
 #[Value.string x, Value.string x_2, Value.int IntKind.i64 x_3, Value.int IntKind.i64 x_4,
 Value.slice p n c],
 Value.agg
 #[Value.string x_5, Value.string x_6, Value.int IntKind.i64 x_7, Value.int IntKind.i64 x_8,
 Value.slice p_1 n_1 c_1]]))
 w'
theorem vc_lto (nb : ByteArray) (ps : ByteArray) (mb : Int) (dl : Int) (p : Option Addr) (n : Nat) (c : Nat) (w : World) (R : Ending → World → Prop) (h : VC_lto nb ps mb dl p n c w R) : Calls Tryd.prog 10 ([Value.agg
    #[Value.string nb, Value.string ps, Value.int IntKind.i64 mb, Value.int IntKind.i64 dl,
      Value.slice p n c]] : List Value).toArray w R := by
  have e : execR { P := Tryd.prog, loops := [(3, [(5, Ck.int IntKind.i64)])], pur := pur1, tails := [(1, 19), (5, 7), (6, 8)], joins := [(999999, [(2, .ptr), (3, .ptr)])], boxes := [] } Tryd.f10.results.toList R (Tryd.f10.body.getD .skip) (initF [Value.agg
    #[Value.string nb, Value.string ps, Value.int IntKind.i64 mb, Value.int IntKind.i64 dl,
      Value.slice p n
        c]] (Tryd.f10.ntmps - ([Value.agg
    #[Value.string nb, Value.string ps, Value.int IntKind.i64 mb, Value.int IntKind.i64 dl,
      Value.slice p n c]] : List Value).length)) w = VC_lto nb ps mb dl p n c w R := by kernel_rfl
  have hb : Tryd.f10.body = some (Tryd.f10.body.getD .skip) := by kernel_rfl
  exact calls_of_exec' (P := Tryd.prog) (fn := Tryd.f10) (c := Tryd.f10.body.getD .skip) (args := [Value.agg
    #[Value.string nb, Value.string ps, Value.int IntKind.i64 mb, Value.int IntKind.i64 dl,
      Value.slice p n c]]) (w := w) (R := R) pur1_ok Tryd.func10 hb e h

def VC_litem (a : Array Value) (w : World) (R : Ending → World → Prop) : Prop :=
 ∃ (J : List Value → World → Prop),
 (∀ (n : Nat) (w1 : World),
 NewB w (Obj.cells a 27) n w1 →
 ∀ (n_1 : Nat) (w1_1 : World),
 NewB w1
 (Obj.cells
 #[Value.int IntKind.u8 0, Value.int IntKind.u8 0, Value.int IntKind.u8 0, Value.int IntKind.u8 0,
 Value.int IntKind.u8 0, Value.int IntKind.u8 0, Value.int IntKind.u8 0, Value.int IntKind.u8 0,
 Value.int IntKind.u8 0, Value.int IntKind.u8 0, Value.int IntKind.u8 0, Value.int IntKind.u8 0,
 Value.int IntKind.u8 0, Value.int IntKind.u8 0, Value.int IntKind.u8 0, Value.int IntKind.u8 0,
 Value.int IntKind.u8 0, Value.int IntKind.u8 0, Value.int IntKind.u8 0, Value.int IntKind.u8 0,
 Value.int IntKind.u8 0, Value.int IntKind.u8 0, Value.int IntKind.u8 0, Value.int IntKind.u8 0,
 Value.int IntKind.u8 0, Value.int IntKind.u8 0, Value.int IntKind.u8 0, Value.int IntKind.u8 0,
 Value.int IntKind.u8 0, Value.int IntKind.u8 0, Value.int IntKind.u8 0, Value.int IntKind.u8 0,
 Value.slice none 0 0, Value.string (ByteArray.mk #[]), Value.int IntKind.i64 0, Value.bool false,
 Value.string (ByteArray.mk #[]), Value.int IntKind.i64 0]
 39)
 n_1 w1_1 →
 ∀ (n_2 : Nat) (w1 : World),
 NewB w1_1
 (Obj.cells
 #[Value.int IntKind.u8 0, Value.int IntKind.u8 0, Value.int IntKind.u8 0, Value.int IntKind.u8 0,
 Value.int IntKind.u8 0, Value.int IntKind.u8 0, Value.int IntKind.u8 0, Value.int IntKind.u8 0,
 Value.int IntKind.u8 0, Value.int IntKind.u8 0, Value.int IntKind.u8 0, Value.int IntKind.u8 0,
 Value.int IntKind.u8 0, Value.int IntKind.u8 0, Value.int IntKind.u8 0, Value.int IntKind.u8 0,
 Value.int IntKind.u8 0, Value.int IntKind.u8 0, Value.int IntKind.u8 0, Value.int IntKind.u8 0,
 Value.int IntKind.u8 0, Value.int IntKind.u8 0, Value.int IntKind.u8 0, Value.int IntKind.u8 0,
 Value.int IntKind.u8 0, Value.int IntKind.u8 0, Value.int IntKind.u8 0, Value.int IntKind.u8 0,
 Value.int IntKind.u8 0, Value.int IntKind.u8 0, Value.int IntKind.u8 0, Value.int IntKind.u8 0,
 Value.slice none 0 0, Value.string (ByteArray.mk #[]), Value.int IntKind.i64 0, Value.bool false,
 Value.string (ByteArray.mk #[]), Value.int IntKind.i64 0]
 27)
 n_2 w1 →
 ∀ (n_3 : Nat) (w1_2 : World),
 NewB w1 (Obj.cells #[] 9) n_3 w1_2 →
 ∃ (p : Option Addr),
 ∃ (n_4 : Nat),
 ∃ (c : Nat),
 w1_2.cell? (Addr.mk n (0 + 32) none) = some (Value.slice p n_4 c) ∧
 ∃ (p_1 : Option Addr),
 ∃ (n_5 : Nat),
 ∃ (c_1 : Nat),
 w1_2.cell? (Addr.mk n (0 + 32) none) = some (Value.slice p_1 n_5 c_1) ∧
 ((0 ≤ if 20 < (↑n_5 : Int) then 20 else (↑n_5 : Int)) ∧
 (if 20 < (↑n_5 : Int) then 20 else (↑n_5 : Int)) ≤ (↑c : Int)) ∧
 ∃ (base : Nat),
 ∃ (xs : List Value),
 ∃ (news : List Value),
 w1_2.ownsRow base 9 1 (Value.slice (some (Addr.mk n_3 0 none)) 0 0) 0 xs ∧
 news.length = (if 20 < (↑n_5 : Int) then 20 else (↑n_5 : Int)).toNat * 1 ∧
 SrcP w1_2 p news ∧
 0 + (if 20 < (↑n_5 : Int) then 20 else (↑n_5 : Int)).toNat ≤ 9223372036854775807 ∧
 (0 + (if 20 < (↑n_5 : Int) then 20 else (↑n_5 : Int)).toNat) * 16 ≤ 140737488355328 ∧
 base ≤ w1_2.heap.size ∧
 ∀ (p' : Option Addr) (c' : Nat) (w' : World),
 w'.ownsRow base 9 1
 (Value.slice p' (0 + (if 20 < (↑n_5 : Int) then 20 else (↑n_5 : Int)).toNat) c')
 (0 + (if 20 < (↑n_5 : Int) then 20 else (↑n_5 : Int)).toNat) (xs ++ news) →
 w1_2.grownBy w' (Value.slice (some (Addr.mk n_3 0 none)) 0 0).ownBlock →
 ((∃ (u : Value), w'.cell? (Addr.mk n (0 + 32) none) = some u) ∧
 w'.frozen? (Addr.mk n (0 + 32) none) = false) ∧
 ∀ (w1 : World),
 PutB w' n (0 + 32)
 [Value.slice p' (0 + (if 20 < (↑n_5 : Int) then 20 else (↑n_5 : Int)).toNat) c'] w1 →
 ∃ (S : World → Prop),
 S w1.drew ∧
 ∃ (f : Nat → Int),
 (∀ (w' : World),
 S w' →
 AtL w' n 0
 (arrI IntKind.u8 f 32 0)) ∧
 ∃ (p : Option Addr),
 ∃ (n_6 : Nat),
 ∃ (c : Nat),
 (∀ (w' : World),
 S w' → w'.cell? (Addr.mk n (0 + 32) none) = some (Value.slice p n_6 c)) ∧
 ∃ (x : ByteArray),
 (∀ (w' : World),
 S w' → w'.cell? (Addr.mk n (0 + 33) none) = some (Value.string x)) ∧
 ∃ (x_1 : Int),
 (∀ (w' : World),
 S w' →
 w'.cell? (Addr.mk n (0 + 34) none) = some (Value.int IntKind.i64 x_1)) ∧
 ∃ (x_2 : Bool),
 (∀ (w' : World),
 S w' → w'.cell? (Addr.mk n (0 + 35) none) = some (Value.bool x_2)) ∧
 ∃ (x_3 : ByteArray),
 (∀ (w' : World),
 S w' →
 w'.cell? (Addr.mk n (0 + 36) none) = some (Value.string x_3)) ∧
 ∃ (x_4 : Int),
 (∀ (w' : World),
 S w' →
 w'.cell? (Addr.mk n (0 + 37) none) =
 some (Value.int IntKind.i64 x_4)) ∧
 ∃ (f_1 : Nat → Int),
 ∃ (p_2 : Option Addr),
 ∃ (n_7 : Nat),
 ∃ (c : Nat),
 ∃ (x_5 : ByteArray),
 ∃ (x_6 : Int),
 ∃ (x_7 : Bool),
 ∃ (x_8 : ByteArray),
 ∃ (x_9 : Int),
 (∀ (w' : World),
 S w' →
 AtL w' n 0
 (arrI IntKind.u8 f_1 32 0 ++ [Value.slice p_2 n_7 c,
 Value.string x_5, Value.int IntKind.i64 x_6,
 Value.bool x_7, Value.string x_8,
 Value.int IntKind.i64 x_9])) ∧
 ∀ (n : Nat) (w1_3 : World),
 NewB w1.drew (Obj.cells #[] 9) n w1_3 →
 S w1_3 ∧
 ∃ (base : Nat),
 ∃ (xs : List Value),
 ∃ (news : List Value),
 w1_3.ownsRow base 9 1
 (Value.slice (some (Addr.mk n 0 none)) 0 0) 0 xs ∧
 news.length = n_6 * 1 ∧
 SrcP w1_3 p news ∧
 0 + n_6 ≤ 9223372036854775807 ∧
 (0 + n_6) * 16 ≤ 140737488355328 ∧
 base ≤ w1_3.heap.size ∧
 ∀ (p' : Option Addr) (c' : Nat) (w' : World),
 w'.ownsRow base 9 1
 (Value.slice p' (0 + n_6) c') (0 + n_6)
 (xs ++ news) →
 w1_3.grownBy w'
 (Value.slice (some (Addr.mk n 0 none)) 0
 0).ownBlock →
 S w' ∧
 WrL w' n_1 0 38 ∧
 ∀ (w1 : World),
 PutB w' n_1 0
 (arrI IntKind.u8 f 32 0 ++ [Value.slice p' (0 + n_6) c',
 Value.string x,
 Value.int IntKind.i64 x_1,
 Value.bool x_2, Value.string x_3,
 Value.int IntKind.i64 x_4])
 w1 →
 S w1 ∧
 WrL w1 n_2 0 38 ∧
 ∀ (w1_4 : World),
 PutB w1 n_2 0
 (arrI IntKind.u8 f_1 32 0 ++ [Value.slice p_2 n_7 c,
 Value.string x_5,
 Value.int IntKind.i64 x_6,
 Value.bool x_7, Value.string x_8,
 Value.int IntKind.i64 x_9])
 w1_4 →
 J
 [Value.pointer
 (some (Addr.mk n_1 0 none)),
 Value.pointer
 (some (Addr.mk n_2 0 none))]
 w1_4) ∧
 ∀ (x x_1 : Option Addr) (w' : World),
 J [Value.pointer x, Value.pointer x_1] w' →
 nn true x fun (b o : Nat) =>
 ∃ (f : Nat → Int),
 ∃ (p : Option Addr),
 ∃ (n : Nat),
 ∃ (c : Nat),
 ∃ (x : ByteArray),
 ∃ (x_2 : Int),
 ∃ (x_3 : Bool),
 ∃ (x_4 : ByteArray),
 ∃ (x_5 : Int),
 AtL w' b o
 (arrI IntKind.u8 f 32 0 ++ [Value.slice p n c, Value.string x,
 Value.int IntKind.i64 x_2, Value.bool x_3, Value.string x_4, Value.int IntKind.i64 x_5]) ∧
 nn true x_1 fun (b o : Nat) =>
 ∃ (f_1 : Nat → Int),
 ∃ (p_1 : Option Addr),
 ∃ (n_1 : Nat),
 ∃ (c_1 : Nat),
 ∃ (x_6 : ByteArray),
 ∃ (x_7 : Int),
 ∃ (x_8 : Bool),
 ∃ (x_9 : ByteArray),
 ∃ (x_10 : Int),
 AtL w' b o
 (arrI IntKind.u8 f_1 32 0 ++ [Value.slice p_1 n_1 c_1,
 Value.string x_6, Value.int IntKind.i64 x_7, Value.bool x_8, Value.string x_9,
 Value.int IntKind.i64 x_10]) ∧
 R
 (Ending.returned
 (Value.tuple
 #[Value.agg
 (arrI IntKind.u8 f 32 0 ++ [Value.slice p n c,
 Value.string x, Value.int IntKind.i64 x_2, Value.bool x_3, Value.string x_4,
 Value.int IntKind.i64 x_5]).toArray,
 Value.agg
 (arrI IntKind.u8 f_1 32 0 ++ [Value.slice p_1 n_1 c_1,
 Value.string x_6, Value.int IntKind.i64 x_7, Value.bool x_8, Value.string x_9,
 Value.int IntKind.i64 x_10]).toArray]))
 w'
theorem vc_litem (a : Array Value) (w : World) (R : Ending → World → Prop) (h : VC_litem a w R) : Calls Tryd.prog 14 ([Value.agg
    a] : List Value).toArray w R := by
  have e : execR { P := Tryd.prog, loops := [], pur := pur1, tails := [(2, 2)], joins := [(999999, [(2, .ptr), (3, .ptr)])], boxes := [] } Tryd.f14.results.toList R (Tryd.f14.body.getD .skip) (initF [Value.agg
    a] (Tryd.f14.ntmps - ([Value.agg a] : List Value).length)) w = VC_litem a w R := by kernel_rfl
  have hb : Tryd.f14.body = some (Tryd.f14.body.getD .skip) := by kernel_rfl
  exact calls_of_exec' (P := Tryd.prog) (fn := Tryd.f14) (c := Tryd.f14.body.getD .skip) (args := [Value.agg
    a]) (w := w) (R := R) pur1_ok Tryd.func14 hb e h

def VC_quotas (lim : Int) (p : Option Addr) (n : Nat) (c : Nat) (at_ : Int) (w : World) (R : Ending → World → Prop) : Prop :=
 CallsS Tryd.prog 19 #[Value.int IntKind.i64 lim] w fun (e : Ending) (w' : World) =>
 ∃ (x : Option Addr),
 ∃ (x_1 : Int),
 e = Ending.returned (Value.tuple #[Value.pointer x, Value.int IntKind.i64 x_1]) ∧
 bsp (decide (lim < 0) || decide (lim > 1099511627776))
 (CallsS Tryd.prog 12 #[] w' fun (e : Ending) (w' : World) =>
 ∃ (x_2 : Bool),
 e = Ending.returned (Value.bool x_2) ∧ R (Ending.returned (Value.bool (x_2 && x.isNone && x_1 == 2))) w')
 (CallsS Tryd.prog 12 #[] w' fun (e : Ending) (w' : World) =>
 ∃ (x_2 : Bool),
 e = Ending.returned (Value.bool x_2) ∧
 bsp (!x_2 || x.isNone || x_1 != 0) (R (Ending.returned (Value.bool false)) w')
 (∀ (n_1 : Nat) (w1 : World),
 NewB w' (Obj.cells #[Value.int IntKind.i64 0, Value.int IntKind.i64 0, Value.int IntKind.i64 0] 52) n_1 w1 →
 WrL w1 n_1 0 3 ∧
 ∀ (w1_1 : World),
 PutB w1 n_1 0 [Value.int IntKind.i64 lim, Value.int IntKind.i64 0, Value.int IntKind.i64 0] w1_1 →
 ∃ (I : List Value → World → Prop),
 ∃ (m : List Value → World → Nat),
 I [Value.int IntKind.i64 0] w1_1 ∧
 ∀ (x_3 : Int) (w' : World),
 I [Value.int IntKind.i64 x_3] w' →
 bsp (decide (x_3 < (↑n : Int)) && decide (x_3 < 60))
 (∃ (J : List Value → World → Prop),
 (∃ (S : World → Prop),
 S w'.drew ∧
 ∃ (x : Int),
 ∃ (x_4 : Int),
 ∃ (x_5 : Int),
 (∀ (w' : World),
 S w' →
 AtL w' n_1 0
 [Value.int IntKind.i64 x, Value.int IntKind.i64 x_4, Value.int IntKind.i64 x_5]) ∧
 nn true p fun (b o : Nat) =>
 (0 ≤ x_3 ∧ x_3 < (↑n : Int)) ∧
 ∃ (x_6 : Int),
 (∀ (w' : World),
 S w' →
 w'.cell? (Addr.mk b (o + x_3.toNat * 2) none) = some (Value.int IntKind.i64 x_6)) ∧
 nn true p fun (b o : Nat) =>
 (0 ≤ x_3 ∧ x_3 < (↑n : Int)) ∧
 ∃ (x_7 : Int),
 (∀ (w' : World),
 S w' →
 w'.cell? (Addr.mk b (o + x_3.toNat * 2 + 1) none) =
 some (Value.int IntKind.i64 x_7)) ∧
 (CallsS Tryd.prog 20
 #[Value.agg
 #[Value.int IntKind.i64 x, Value.int IntKind.i64 x_4,
 Value.int IntKind.i64 x_5],
 Value.int IntKind.i64 x_6, Value.int IntKind.i64 x_7]
 w'.drew fun (e : Ending) (w' : World) =>
 ∃ (x : Int),
 ∃ (x_8 : Int),
 ∃ (x_9 : Int),
 ∃ (x_10 : Int),
 e =
 Ending.returned
 (Value.tuple
 #[Value.agg
 #[Value.int IntKind.i64 x, Value.int IntKind.i64 x_8,
 Value.int IntKind.i64 x_9],
 Value.int IntKind.i64 x_10]) ∧
 ∀ (n : Nat) (w1 : World),
 NewB w'
 (Obj.cells
 #[Value.int IntKind.i64 0, Value.int IntKind.i64 0,
 Value.int IntKind.i64 0]
 52)
 n w1 →
 S w1 ∧
 WrL w1 n 0 3 ∧
 ∀ (w1_2 : World),
 PutB w1 n 0
 [Value.int IntKind.i64 x, Value.int IntKind.i64 x_8,
 Value.int IntKind.i64 x_9]
 w1_2 →
 J [Value.pointer (some (Addr.mk n 0 none)), Value.int IntKind.i64 x_10]
 w1_2) ∧
 ∀ (n : Nat) (w1 : World),
 NewB w'.drew
 (Obj.cells
 #[Value.int IntKind.i64 0, Value.int IntKind.i64 0, Value.int IntKind.i64 0]
 52)
 n w1 →
 S w1 ∧
 CallsS Tryd.prog 20
 #[Value.agg
 #[Value.int IntKind.i64 x, Value.int IntKind.i64 x_4,
 Value.int IntKind.i64 x_5],
 Value.int IntKind.i64 x_6, Value.int IntKind.i64 x_7]
 w1 fun (e : Ending) (w' : World) =>
 ∃ (x : Int),
 ∃ (x_8 : Int),
 ∃ (x_9 : Int),
 ∃ (x_10 : Int),
 e =
 Ending.returned
 (Value.tuple
 #[Value.agg
 #[Value.int IntKind.i64 x, Value.int IntKind.i64 x_8,
 Value.int IntKind.i64 x_9],
 Value.int IntKind.i64 x_10]) ∧
 WrL w' n 0 3 ∧
 ∀ (w1 : World),
 PutB w' n 0
 [Value.int IntKind.i64 x, Value.int IntKind.i64 x_8,
 Value.int IntKind.i64 x_9]
 w1 →
 J [Value.pointer (some (Addr.mk n 0 none)), Value.int IntKind.i64 x_10]
 w1) ∧
 ∀ (x_4 : Option Addr) (x_5 : Int) (w'_1 : World),
 J [Value.pointer x_4, Value.int IntKind.i64 x_5] w'_1 →
 ∃ (S : World → Prop),
 S w'_1.drew ∧
 nn true p fun (b o : Nat) =>
 (0 ≤ x_3 ∧ x_3 < (↑n : Int)) ∧
 ∃ (x_6 : Int),
 (∀ (w' : World),
 S w' →
 w'.cell? (Addr.mk b (o + x_3.toNat * 2) none) = some (Value.int IntKind.i64 x_6)) ∧
 nn true p fun (b o : Nat) =>
 (0 ≤ x_3 ∧ x_3 < (↑n : Int)) ∧
 ∃ (x_7 : Int),
 (∀ (w' : World),
 S w' →
 w'.cell? (Addr.mk b (o + x_3.toNat * 2 + 1) none) =
 some (Value.int IntKind.i64 x_7)) ∧
 CallsS Tryd.prog 21
 #[Value.pointer x, Value.int IntKind.i64 x_6, Value.int IntKind.i64 x_7] w'_1.drew
 fun (e : Ending) (w'_2 : World) =>
 ∃ (x_8 : Int),
 e = Ending.returned (Value.int IntKind.i64 x_8) ∧
 S w'_2 ∧
 nn (!x_8 != x_5) p fun (b o : Nat) =>
 gimp (!x_8 != x_5) (0 ≤ x_3 ∧ x_3 < (↑n : Int)) ∧
 ∃ (x_9 : Int),
 gimp (!x_8 != x_5)
 (∀ (w' : World),
 S w' →
 w'.cell? (Addr.mk b (o + x_3.toNat * 2 + 1) none) =
 some (Value.int IntKind.i64 x_9)) ∧
 nn (!x_8 != x_5) x_4 fun (b o : Nat) =>
 ∃ (x_10 : Int),
 ∃ (x_11 : Int),
 ∃ (x_12 : Int),
 gimp (!x_8 != x_5)
 (∀ (w' : World),
 S w' →
 AtL w' b o
 [Value.int IntKind.i64 x_10, Value.int IntKind.i64 x_11,
 Value.int IntKind.i64 x_12]) ∧
 nn (!x_8 != x_5) p fun (b o : Nat) =>
 gimp (!x_8 != x_5) (0 ≤ x_3 ∧ x_3 < (↑n : Int)) ∧
 ∃ (x_13 : Int),
 gimp (!x_8 != x_5)
 (∀ (w' : World),
 S w' →
 w'.cell? (Addr.mk b (o + x_3.toNat * 2 + 1) none) =
 some (Value.int IntKind.i64 x_13)) ∧
 bsp (!x_8 != x_5)
 (CallsS Tryd.prog 22 #[Value.pointer x, Value.int IntKind.i64 x_9]
 w'_2 fun (e : Ending) (w'_3 : World) =>
 ∃ (x_14 : Int),
 e = Ending.returned (Value.int IntKind.i64 x_14) ∧
 S w'_3 ∧
 CallsS Tryd.prog 23
 #[Value.agg
 #[Value.int IntKind.i64 x_10, Value.int IntKind.i64 x_11,
 Value.int IntKind.i64 x_12],
 Value.int IntKind.i64 x_13]
 w'_3 fun (e : Ending) (w'_4 : World) =>
 ∃ (x_15 : Int),
 e = Ending.returned (Value.int IntKind.i64 x_15) ∧
 S w'_4 ∧
 nn (!(false || x_14 != x_15)) x_4 fun (b o : Nat) =>
 ∃ (x_16 : Int),
 ∃ (x_17 : Int),
 ∃ (x_18 : Int),
 gimp (!(false || x_14 != x_15))
 (∀ (w' : World),
 S w' →
 AtL w' b o
 [Value.int IntKind.i64 x_16,
 Value.int IntKind.i64 x_17,
 Value.int IntKind.i64 x_18]) ∧
 bsp (!(false || x_14 != x_15))
 (CallsS Tryd.prog 22
 #[Value.pointer x, Value.int IntKind.i64 at_] w'_4
 fun (e : Ending) (w'_5 : World) =>
 ∃ (x : Int),
 e = Ending.returned (Value.int IntKind.i64 x) ∧
 S w'_5 ∧
 CallsS Tryd.prog 23
 #[Value.agg
 #[Value.int IntKind.i64 x_16,
 Value.int IntKind.i64 x_17,
 Value.int IntKind.i64 x_18],
 Value.int IntKind.i64 at_]
 w'_5 fun (e : Ending) (w'_6 : World) =>
 ∃ (x_19 : Int),
 e =
 Ending.returned (Value.int IntKind.i64 x_19) ∧
 bsp (false || x != x_19)
 (R (Ending.returned (Value.bool false)) w'_6)
 (nn true x_4 fun (b o : Nat) =>
 ∃ (x : Int),
 ∃ (x_20 : Int),
 ∃ (x_21 : Int),
 AtL w'_6 b o
 [Value.int IntKind.i64 x,
 Value.int IntKind.i64 x_20,
 Value.int IntKind.i64 x_21] ∧
 WrL w'_6 n_1 0 3 ∧
 ∀ (w1 : World),
 PutB w'_6 n_1 0
 [Value.int IntKind.i64 x,
 Value.int IntKind.i64 x_20,
 Value.int IntKind.i64 x_21]
 w1 →
 I
 [Value.int IntKind.i64
 (IntKind.i64.wrap (x_3 + 1))]
 w1 ∧
 m
 [Value.int IntKind.i64
 (IntKind.i64.wrap (x_3 + 1))]
 w1 <
 m [Value.int IntKind.i64 x_3] w'))
 (S w'_4 ∧
 R (Ending.returned (Value.bool false)) w'_4))
 (S w'_2 ∧
 S w'_2 ∧
 nn (!true) x_4 fun (b o : Nat) =>
 ∃ (x : Int),
 ∃ (x : Int),
 ∃ (x : Int),
 True ∧ S w'_2 ∧ R (Ending.returned (Value.bool false)) w'_2))
 (R (Ending.returned (Value.bool true)) w')))
theorem vc_quotas (lim : Int) (p : Option Addr) (n : Nat) (c : Nat) (at_ : Int) (w : World) (R : Ending → World → Prop) (h : VC_quotas lim p n c at_ w R) : Calls Tryd.prog 5 ([Value.int
    IntKind.i64 lim,
  Value.slice p n c, Value.int IntKind.i64 at_] : List Value).toArray w R := by
  have e : execR { P := Tryd.prog, loops := [(8, [(10, Ck.int IntKind.i64)])], pur := pur1, tails := [(10, 11), (11, 11)], joins := [(11, [(11, .ptr), (12, Ck.int IntKind.i64)])], boxes := [] } Tryd.f5.results.toList R (Tryd.f5.body.getD .skip) (initF [Value.int
    IntKind.i64 lim,
  Value.slice p n c,
  Value.int IntKind.i64
    at_] (Tryd.f5.ntmps - ([Value.int IntKind.i64 lim, Value.slice p n c,
  Value.int IntKind.i64 at_] : List Value).length)) w = VC_quotas lim p n c at_ w R := by kernel_rfl
  have hb : Tryd.f5.body = some (Tryd.f5.body.getD .skip) := by kernel_rfl
  exact calls_of_exec' (P := Tryd.prog) (fn := Tryd.f5) (c := Tryd.f5.body.getD .skip) (args := [Value.int IntKind.i64
    lim,
  Value.slice p n c, Value.int IntKind.i64 at_]) (w := w) (R := R) pur1_ok Tryd.func5 hb e h

def VC_controls (nb : ByteArray) (ps : ByteArray) (mb : Int) (dl : Int) (p : Option Addr) (n : Nat) (c : Nat) (a : Array Value) (w : World) (R : Ending → World → Prop) : Prop :=
 ∀ (n_1 : Nat) (w1 : World),
 NewB w
 (Obj.cells #[Value.string nb, Value.string ps, Value.int IntKind.i64 mb, Value.int IntKind.i64 dl, Value.slice p n c]
 24)
 n_1 w1 →
 ∀ (n : Nat) (w1_1 : World),
 NewB w1 (Obj.cells a 27) n w1_1 →
 ∃ (x : ByteArray),
 ∃ (x_1 : ByteArray),
 ∃ (x_2 : Int),
 ∃ (x_3 : Int),
 ∃ (p : Option Addr),
 ∃ (n_2 : Nat),
 ∃ (c : Nat),
 AtL w1_1 n_1 0
 [Value.string x, Value.string x_1, Value.int IntKind.i64 x_2, Value.int IntKind.i64 x_3,
 Value.slice p n_2 c] ∧
 CallsS Tryd.prog 10
 #[Value.agg
 #[Value.string x, Value.string x_1, Value.int IntKind.i64 x_2, Value.int IntKind.i64 x_3,
 Value.slice p n_2 c]]
 w1_1 fun (e : Ending) (w' : World) =>
 ∃ (x : ByteArray),
 ∃ (x_4 : ByteArray),
 ∃ (x_5 : Int),
 ∃ (x_6 : Int),
 ∃ (p : Option Addr),
 ∃ (n_3 : Nat),
 ∃ (c : Nat),
 ∃ (x_7 : ByteArray),
 ∃ (x_8 : ByteArray),
 ∃ (x_9 : Int),
 ∃ (x_10 : Int),
 ∃ (p_1 : Option Addr),
 ∃ (n_4 : Nat),
 ∃ (c_1 : Nat),
 e =
 Ending.returned
 (Value.tuple
 #[Value.agg
 #[Value.string x, Value.string x_4, Value.int IntKind.i64 x_5,
 Value.int IntKind.i64 x_6, Value.slice p n_3 c],
 Value.agg
 #[Value.string x_7, Value.string x_8, Value.int IntKind.i64 x_9,
 Value.int IntKind.i64 x_10, Value.slice p_1 n_4 c_1]]) ∧
 ∀ (n_5 : Nat) (w1 : World),
 NewB w'
 (Obj.cells
 #[Value.string (ByteArray.mk #[]), Value.string (ByteArray.mk #[]),
 Value.int IntKind.i64 0, Value.int IntKind.i64 0, Value.slice none 0 0]
 28)
 n_5 w1 →
 ∀ (n_6 : Nat) (w1_2 : World),
 NewB w1
 (Obj.cells
 #[Value.string (ByteArray.mk #[]), Value.string (ByteArray.mk #[]),
 Value.int IntKind.i64 0, Value.int IntKind.i64 0, Value.slice none 0 0]
 24)
 n_6 w1_2 →
 WrL w1_2 n_5 0 5 ∧
 ∀ (w1 : World),
 PutB w1_2 n_5 0
 [Value.string x, Value.string x_4, Value.int IntKind.i64 x_5,
 Value.int IntKind.i64 x_6, Value.slice p n_3 c]
 w1 →
 WrL w1 n_6 0 5 ∧
 ∀ (w1_3 : World),
 PutB w1 n_6 0
 [Value.string x_7, Value.string x_8, Value.int IntKind.i64 x_9,
 Value.int IntKind.i64 x_10, Value.slice p_1 n_4 c_1]
 w1_3 →
 ∃ (x : ByteArray),
 ∃ (x_11 : ByteArray),
 ∃ (x_12 : Int),
 ∃ (x_13 : Int),
 ∃ (p : Option Addr),
 ∃ (n_7 : Nat),
 ∃ (c : Nat),
 AtL w1_3 n_5 0
 [Value.string x, Value.string x_11, Value.int IntKind.i64 x_12,
 Value.int IntKind.i64 x_13, Value.slice p n_7 c] ∧
 CallsS Tryd.prog 11
 #[Value.agg
 #[Value.string x, Value.string x_11, Value.int IntKind.i64 x_12,
 Value.int IntKind.i64 x_13, Value.slice p n_7 c]]
 w1_3 fun (e : Ending) (w' : World) =>
 ∃ (x : Option Addr),
 ∃ (x_14 : Int),
 e =
 Ending.returned
 (Value.tuple #[Value.pointer x, Value.int IntKind.i64 x_14]) ∧
 bsp (x_14 != 0 || x.isNone)
 (CallsS Tryd.prog 12 #[] w' fun (e : Ending) (w' : World) =>
 ∃ (x : Bool),
 e = Ending.returned (Value.bool x) ∧
 R (Ending.returned (Value.bool x)) w')
 (∃ (f : Nat → Int),
 ∃ (p : Option Addr),
 ∃ (n_8 : Nat),
 ∃ (c : Nat),
 ∃ (x_15 : ByteArray),
 ∃ (x_16 : Int),
 ∃ (x_17 : Bool),
 ∃ (x_18 : ByteArray),
 ∃ (x_19 : Int),
 AtL w' n 0
 (arrI IntKind.u8 f 32 0 ++ [Value.slice p n_8 c, Value.string x_15,
 Value.int IntKind.i64 x_16, Value.bool x_17,
 Value.string x_18, Value.int IntKind.i64 x_19]) ∧
 CallsS Tryd.prog 14
 #[Value.agg
 (arrI IntKind.u8 f 32 0 ++ [Value.slice p n_8 c,
 Value.string x_15, Value.int IntKind.i64 x_16,
 Value.bool x_17, Value.string x_18,
 Value.int IntKind.i64 x_19]).toArray]
 w' fun (e : Ending) (w' : World) =>
 ∃ (f : Nat → Int),
 ∃ (p : Option Addr),
 ∃ (n : Nat),
 ∃ (c : Nat),
 ∃ (x_20 : ByteArray),
 ∃ (x_21 : Int),
 ∃ (x_22 : Bool),
 ∃ (x_23 : ByteArray),
 ∃ (x_24 : Int),
 ∃ (f_1 : Nat → Int),
 ∃ (p_2 : Option Addr),
 ∃ (n_9 : Nat),
 ∃ (c_2 : Nat),
 ∃ (x_25 : ByteArray),
 ∃ (x_26 : Int),
 ∃ (x_27 : Bool),
 ∃ (x_28 : ByteArray),
 ∃ (x_29 : Int),
 e =
 Ending.returned
 (Value.tuple
 #[Value.agg
 (arrI IntKind.u8 f 32 0 ++ [Value.slice p n c,
 Value.string x_20,
 Value.int IntKind.i64 x_21,
 Value.bool x_22,
 Value.string x_23,
 Value.int IntKind.i64 x_24]).toArray,
 Value.agg
 (arrI IntKind.u8 f_1 32 0 ++ [Value.slice p_2 n_9 c_2,
 Value.string x_25,
 Value.int IntKind.i64 x_26,
 Value.bool x_27,
 Value.string x_28,
 Value.int IntKind.i64 x_29]).toArray]) ∧
 ∀ (n_10 : Nat) (w1 : World),
 NewB w'
 (Obj.cells
 #[Value.int IntKind.u8 0,
 Value.int IntKind.u8 0,
 Value.int IntKind.u8 0,
 Value.int IntKind.u8 0,
 Value.int IntKind.u8 0,
 Value.int IntKind.u8 0,
 Value.int IntKind.u8 0,
 Value.int IntKind.u8 0,
 Value.int IntKind.u8 0,
 Value.int IntKind.u8 0,
 Value.int IntKind.u8 0,
 Value.int IntKind.u8 0,
 Value.int IntKind.u8 0,
 Value.int IntKind.u8 0,
 Value.int IntKind.u8 0,
 Value.int IntKind.u8 0,
 Value.int IntKind.u8 0,
 Value.int IntKind.u8 0,
 Value.int IntKind.u8 0,
 Value.int IntKind.u8 0,
 Value.int IntKind.u8 0,
 Value.int IntKind.u8 0,
 Value.int IntKind.u8 0,
 Value.int IntKind.u8 0,
 Value.int IntKind.u8 0,
 Value.int IntKind.u8 0,
 Value.int IntKind.u8 0,
 Value.int IntKind.u8 0,
 Value.int IntKind.u8 0,
 Value.int IntKind.u8 0,
 Value.int IntKind.u8 0,
 Value.int IntKind.u8 0,
 Value.slice none 0 0,
 Value.string (ByteArray.mk #[]),
 Value.int IntKind.i64 0,
 Value.bool false,
 Value.string (ByteArray.mk #[]),
 Value.int IntKind.i64 0]
 39)
 n_10 w1 →
 ∀ (n_11 : Nat) (w1_4 : World),
 NewB w1
 (Obj.cells
 #[Value.int IntKind.u8 0,
 Value.int IntKind.u8 0,
 Value.int IntKind.u8 0,
 Value.int IntKind.u8 0,
 Value.int IntKind.u8 0,
 Value.int IntKind.u8 0,
 Value.int IntKind.u8 0,
 Value.int IntKind.u8 0,
 Value.int IntKind.u8 0,
 Value.int IntKind.u8 0,
 Value.int IntKind.u8 0,
 Value.int IntKind.u8 0,
 Value.int IntKind.u8 0,
 Value.int IntKind.u8 0,
 Value.int IntKind.u8 0,
 Value.int IntKind.u8 0,
 Value.int IntKind.u8 0,
 Value.int IntKind.u8 0,
 Value.int IntKind.u8 0,
 Value.int IntKind.u8 0,
 Value.int IntKind.u8 0,
 Value.int IntKind.u8 0,
 Value.int IntKind.u8 0,
 Value.int IntKind.u8 0,
 Value.int IntKind.u8 0,
 Value.int IntKind.u8 0,
 Value.int IntKind.u8 0,
 Value.int IntKind.u8 0,
 Value.int IntKind.u8 0,
 Value.int IntKind.u8 0,
 Value.int IntKind.u8 0,
 Value.int IntKind.u8 0,
 Value.slice none 0 0,
 Value.string (ByteArray.mk #[]),
 Value.int IntKind.i64 0,
 Value.bool false,
 Value.string (ByteArray.mk #[]),
 Value.int IntKind.i64 0]
 27)
 n_11 w1_4 →
 WrL w1_4 n_10 0 38 ∧
 ∀ (w1 : World),
 PutB w1_4 n_10 0
 (arrI IntKind.u8 f 32 0 ++ [Value.slice p n c,
 Value.string x_20,
 Value.int IntKind.i64 x_21,
 Value.bool x_22,
 Value.string x_23,
 Value.int IntKind.i64 x_24])
 w1 →
 WrL w1 n_11 0 38 ∧
 ∀ (w1_5 : World),
 PutB w1 n_11 0
 (arrI IntKind.u8 f_1 32 0 ++ [Value.slice p_2 n_9 c_2,
 Value.string x_25,
 Value.int IntKind.i64 x_26,
 Value.bool x_27,
 Value.string x_28,
 Value.int IntKind.i64 x_29])
 w1_5 →
 ((∃ (u : Value),
 w1_5.cell?
 (Addr.mk n_10 (0 + 35)
 none) =
 some u) ∧
 w1_5.frozen?
 (Addr.mk n_10 (0 + 35)
 none) =
 false) ∧
 ∀ (w1 : World),
 PutB w1_5 n_10 (0 + 35)
 [Value.bool true] w1 →
 ∃ (S : World → Prop),
 S w1.drew ∧
 ∃ (f : Nat → Int),
 ∃ (p : Option Addr),
 ∃ (n : Nat),
 ∃ (c : Nat),
 ∃ (x_30 :
 ByteArray),
 ∃ (x_31 : Int),
 ∃ (x_32 : Bool),
 ∃ (x_33 :
 ByteArray),
 ∃ (x_34 : Int),
 (∀
 (w' : World),
 S w' →
 AtL w' n_10
 0
 (arrI IntKind.u8 f 32 0 ++ [Value.slice
 p n c,
 Value.string
 x_30,
 Value.int
 IntKind.i64
 x_31,
 Value.bool
 x_32,
 Value.string
 x_33,
 Value.int
 IntKind.i64
 x_34])) ∧
 ∃ (x_35 :
 ByteArray),
 (∀
 (w' :
 World),
 S w' →
 w'.cell?
 (Addr.mk
 n_10
 (0 +
 36)
 none) =
 some
 (Value.string
 x_35)) ∧
 ∃ (x_36 :
 ByteArray),
 (∀
 (w' :
 World),
 S w' →
 w'.cell?
 (Addr.mk
 n_5 0
 none) =
 some
 (Value.string
 x_36)) ∧
 CallsS
 Tryd.prog
 17
 #[Value.pointer
 x,
 Value.agg
 (arrI IntKind.u8 f 32 0 ++ [Value.slice
 p n
 c,
 Value.string
 x_30,
 Value.int
 IntKind.i64
 x_31,
 Value.bool
 x_32,
 Value.string
 x_33,
 Value.int
 IntKind.i64
 x_34]).toArray]
 w1.drew
 fun
 (e :
 Ending)
 (w' :
 World) =>
 ∃ (x_37 :
 Int),
 e =
 Ending.returned
 (Value.int
 IntKind.i64
 x_37) ∧
 S w' ∧
 bsp
 (!(x_37 ==
 0) ==
 !x_35.toList ==
 x_36.toList)
 (R
 (Ending.returned
 (Value.bool
 false))
 w')
 (∃ (S
 :
 World →
 Prop),
 S
 w'.drew ∧
 ∃
 (x_38
 :
 ByteArray),
 (∀
 (w' :
 World),
 S
 w' →
 w'.cell?
 (Addr.mk
 n_5
 0
 none) =
 some
 (Value.string
 x_38)) ∧
 ((∃
 (u
 :
 Value),
 w'.drew.cell?
 (Addr.mk
 n_10
 (0 +
 35)
 none) =
 some
 u) ∧
 w'.drew.frozen?
 (Addr.mk
 n_10
 (0 +
 35)
 none) =
 false) ∧
 ∀
 (w1 :
 World),
 PutB
 w'.drew
 n_10
 (0 +
 35)
 [Value.bool
 false]
 w1 →
 S
 w1 ∧
 ((∃
 (u
 :
 Value),
 w1.cell?
 (Addr.mk
 n_10
 (0 +
 36)
 none) =
 some
 u) ∧
 w1.frozen?
 (Addr.mk
 n_10
 (0 +
 36)
 none) =
 false) ∧
 ∀
 (w1_6 :
 World),
 PutB
 w1
 n_10
 (0 +
 36)
 [Value.string
 x_38]
 w1_6 →
 ∃
 (f
 :
 Nat →
 Int),
 ∃
 (p
 :
 Option
 Addr),
 ∃
 (n
 :
 Nat),
 ∃
 (c
 :
 Nat),
 ∃
 (x_39
 :
 ByteArray),
 ∃
 (x_40
 :
 Int),
 ∃
 (x_41
 :
 Bool),
 ∃
 (x_42
 :
 ByteArray),
 ∃
 (x_43
 :
 Int),
 AtL
 w1_6
 n_10
 0
 (arrI IntKind.u8 f 32 0 ++ [Value.slice
 p
 n
 c,
 Value.string
 x_39,
 Value.int
 IntKind.i64
 x_40,
 Value.bool
 x_41,
 Value.string
 x_42,
 Value.int
 IntKind.i64
 x_43]) ∧
 CallsS
 Tryd.prog
 16
 #[Value.pointer
 x,
 Value.agg
 (arrI IntKind.u8 f 32 0 ++ [Value.slice
 p
 n
 c,
 Value.string
 x_39,
 Value.int
 IntKind.i64
 x_40,
 Value.bool
 x_41,
 Value.string
 x_42,
 Value.int
 IntKind.i64
 x_43]).toArray]
 w1_6
 fun
 (e :
 Ending)
 (w' :
 World) =>
 ∃
 (x_44
 :
 Int),
 ∃
 (x_45
 :
 Bool),
 e =
 Ending.returned
 (Value.tuple
 #[Value.int
 IntKind.i64
 x_44,
 Value.bool
 x_45]) ∧
 CallsS
 Tryd.prog
 12
 #[]
 w'
 fun
 (e :
 Ending)
 (w' :
 World) =>
 ∃
 (x_46
 :
 Bool),
 e =
 Ending.returned
 (Value.bool
 x_46) ∧
 ∃
 (f
 :
 Nat →
 Int),
 ∃
 (p
 :
 Option
 Addr),
 ∃
 (n
 :
 Nat),
 ∃
 (c
 :
 Nat),
 ∃
 (x_47
 :
 ByteArray),
 ∃
 (x_48
 :
 Int),
 ∃
 (x_49
 :
 Bool),
 ∃
 (x_50
 :
 ByteArray),
 ∃
 (x_51
 :
 Int),
 gimp
 x_46
 (AtL
 w'
 n_10
 0
 (arrI IntKind.u8 f 32 0 ++ [Value.slice
 p
 n
 c,
 Value.string
 x_47,
 Value.int
 IntKind.i64
 x_48,
 Value.bool
 x_49,
 Value.string
 x_50,
 Value.int
 IntKind.i64
 x_51])) ∧
 bsp
 x_46
 (CallsS
 Tryd.prog
 17
 #[Value.pointer
 x,
 Value.agg
 (arrI IntKind.u8 f 32 0 ++ [Value.slice
 p
 n
 c,
 Value.string
 x_47,
 Value.int
 IntKind.i64
 x_48,
 Value.bool
 x_49,
 Value.string
 x_50,
 Value.int
 IntKind.i64
 x_51]).toArray]
 w'
 fun
 (e :
 Ending)
 (w' :
 World) =>
 ∃
 (x
 :
 Int),
 e =
 Ending.returned
 (Value.int
 IntKind.i64
 x) ∧
 R
 (Ending.returned
 (Value.bool
 (true &&
 x ==
 1 &&
 !x_45)))
 w')
 (R
 (Ending.returned
 (Value.bool
 (false &&
 !x_45)))
 w')))
theorem vc_controls (nb : ByteArray) (ps : ByteArray) (mb : Int) (dl : Int) (p : Option Addr) (n : Nat) (c : Nat) (a : Array Value) (w : World) (R : Ending → World → Prop) (h : VC_controls nb ps mb dl p n c a w R) : Calls Tryd.prog 4 ([Value.agg
    #[Value.string nb, Value.string ps, Value.int IntKind.i64 mb, Value.int IntKind.i64 dl, Value.slice p n c],
  Value.agg a] : List Value).toArray w R := by
  have e : execR { P := Tryd.prog, loops := [], pur := pur1, tails := [(7, 2), (9, 3)], joins := [], boxes := [] } Tryd.f4.results.toList R (Tryd.f4.body.getD .skip) (initF [Value.agg
    #[Value.string nb, Value.string ps, Value.int IntKind.i64 mb, Value.int IntKind.i64 dl, Value.slice p n c],
  Value.agg
    a] (Tryd.f4.ntmps - ([Value.agg
    #[Value.string nb, Value.string ps, Value.int IntKind.i64 mb, Value.int IntKind.i64 dl, Value.slice p n c],
  Value.agg a] : List Value).length)) w = VC_controls nb ps mb dl p n c a w R := by kernel_rfl
  have hb : Tryd.f4.body = some (Tryd.f4.body.getD .skip) := by kernel_rfl
  exact calls_of_exec' (P := Tryd.prog) (fn := Tryd.f4) (c := Tryd.f4.body.getD .skip) (args := [Value.agg
    #[Value.string nb, Value.string ps, Value.int IntKind.i64 mb, Value.int IntKind.i64 dl, Value.slice p n c],
  Value.agg a]) (w := w) (R := R) pur1_ok Tryd.func4 hb e h

def VC_bounds (lim : Int) (p : Option Addr) (n : Nat) (c : Nat) (w : World) (R : Ending → World → Prop) : Prop :=
 CallsS Tryd.prog 19 #[Value.int IntKind.i64 lim] w fun (e : Ending) (w' : World) =>
 ∃ (x : Option Addr),
 ∃ (x_1 : Int),
 e = Ending.returned (Value.tuple #[Value.pointer x, Value.int IntKind.i64 x_1]) ∧
 CallsS Tryd.prog 12 #[] w' fun (e : Ending) (w' : World) =>
 ∃ (x_2 : Bool),
 e = Ending.returned (Value.bool x_2) ∧
 bsp (!x_2 || x_1 != 0 || lim == 0)
 (CallsS Tryd.prog 12 #[] w' fun (e : Ending) (w' : World) =>
 ∃ (x : Bool), e = Ending.returned (Value.bool x) ∧ R (Ending.returned (Value.bool x)) w')
 (∀ (n_1 : Nat) (w1 : World),
 NewB w' (Obj.map #[] 0) n_1 w1 →
 ∃ (I : List Value → World → Prop),
 ∃ (m : List Value → World → Nat),
 I [Value.int IntKind.i64 0] w1 ∧
 ∀ (x_3 : Int) (w' : World),
 I [Value.int IntKind.i64 x_3] w' →
 bsp (decide (x_3 < (↑n : Int)) && decide (x_3 < 60))
 (nn true p fun (b o : Nat) =>
 (0 ≤ x_3 ∧ x_3 < (↑n : Int)) ∧
 ∃ (x_4 : Int),
 w'.drew.cell? (Addr.mk b (o + x_3.toNat * 2) none) = some (Value.int IntKind.i64 x_4) ∧
 nn true p fun (b o : Nat) =>
 (0 ≤ x_3 ∧ x_3 < (↑n : Int)) ∧
 ∃ (x_5 : Int),
 w'.drew.cell? (Addr.mk b (o + x_3.toNat * 2 + 1) none) = some (Value.int IntKind.i64 x_5) ∧
 CallsS Tryd.prog 21 #[Value.pointer x, Value.int IntKind.i64 x_4, Value.int IntKind.i64 x_5]
 w'.drew fun (e : Ending) (w'_1 : World) =>
 ∃ (x : Int),
 e = Ending.returned (Value.int IntKind.i64 x) ∧
 bsp (x != 0)
 (I [Value.int IntKind.i64 (IntKind.i64.wrap (x_3 + 1))] w'_1 ∧
 m [Value.int IntKind.i64 (IntKind.i64.wrap (x_3 + 1))] w'_1 <
 m [Value.int IntKind.i64 x_3] w')
 (nn true p fun (b o : Nat) =>
 (0 ≤ x_3 ∧ x_3 < (↑n : Int)) ∧
 ∃ (x : Int),
 w'_1.cell? (Addr.mk b (o + x_3.toNat * 2 + 1) none) = some (Value.int IntKind.i64 x) ∧
 ∃ (x_6 : Int),
 LookP Tryd.prog 61 (Value.map (some n_1))
 (Value.int IntKind.i64 (IntKind.i64.wrap (x.tdiv 1440))) false
 (Value.int IntKind.i64 x_6) w'_1.drew ∧
 nn true p fun (b o : Nat) =>
 (0 ≤ x_3 ∧ x_3 < (↑n : Int)) ∧
 ∃ (x_7 : Int),
 w'_1.drew.cell? (Addr.mk b (o + x_3.toNat * 2) none) =
 some (Value.int IntKind.i64 x_7) ∧
 ∃ (w1 : World),
 UpdP Tryd.prog 61 (Value.map (some n_1))
 (Value.int IntKind.i64 (IntKind.i64.wrap (x.tdiv 1440)))
 (Value.int IntKind.i64 (IntKind.i64.wrap (x_6 + x_7))) w'_1.drew w1 ∧
 ∃ (x_8 : Int),
 LookP Tryd.prog 61 (Value.map (some n_1))
 (Value.int IntKind.i64 (IntKind.i64.wrap (x.tdiv 1440))) false
 (Value.int IntKind.i64 x_8) w1 ∧
 bsp (decide (x_8 > lim)) (R (Ending.returned (Value.bool false)) w1)
 (I [Value.int IntKind.i64 (IntKind.i64.wrap (x_3 + 1))] w1 ∧
 m [Value.int IntKind.i64 (IntKind.i64.wrap (x_3 + 1))] w1 <
 m [Value.int IntKind.i64 x_3] w')))
 (R (Ending.returned (Value.bool true)) w'))
theorem vc_bounds (lim : Int) (p : Option Addr) (n : Nat) (c : Nat) (w : World) (R : Ending → World → Prop) (h : VC_bounds lim p n c w R) : Calls Tryd.prog 6 ([Value.int
    IntKind.i64 lim,
  Value.slice p n c] : List Value).toArray w R := by
  have e : execR { P := Tryd.prog, loops := [(6, [(8, Ck.int IntKind.i64)])], pur := pur1, tails := [(8, 11), (10, 11)], joins := [], boxes := [] } Tryd.f6.results.toList R (Tryd.f6.body.getD .skip) (initF [Value.int
    IntKind.i64 lim,
  Value.slice p n
    c] (Tryd.f6.ntmps - ([Value.int IntKind.i64 lim,
  Value.slice p n c] : List Value).length)) w = VC_bounds lim p n c w R := by kernel_rfl
  have hb : Tryd.f6.body = some (Tryd.f6.body.getD .skip) := by kernel_rfl
  exact calls_of_exec' (P := Tryd.prog) (fn := Tryd.f6) (c := Tryd.f6.body.getD .skip) (args := [Value.int IntKind.i64
    lim,
  Value.slice p n c]) (w := w) (R := R) pur1_ok Tryd.func6 hb e h

end Go.Proofs.YtcpjajjocmpkjaaDoor

/- The contracts of the law's own conversions To and item. Slices of strings lie in the memory. -/
namespace Go.Proofs.YtcpjajjocmpkjaaDoor
open Go.RowKit

/-- Strings that are copied by append to an empty slice of a new block of no cells. -/
theorem app0 {w w1 : World} {n0 sz : Nat} {T : TypeId} {q : Option Addr} {zs : List ByteArray} (hn : NewB w (.cells #[] T) n0 w1) (hz : StrP w1 q zs) (h1 : zs.length ≤ 1073741824) (h2 : zs.length * sz ≤ 140737488355328) {k : Nat} (hk : k = zs.length) {X : Option Addr → Nat → World → Prop}
    (h : ∀ (p' : Option Addr) (c' : Nat) (w' : World), w'.ownsRow n0 T 1 (.slice p' (0 + k) c') (0 + k) (zs.map Value.string) → K0 w w' → X p' c' w') :
    ∃ (base : Nat) (xs news : List Value), w1.ownsRow base T 1 (.slice (some (Addr.mk n0 0 none)) 0 0) 0 xs ∧ news.length = k * 1 ∧ SrcP w1 q news ∧ 0 + k ≤ 9223372036854775807 ∧ (0 + k) * sz ≤ 140737488355328 ∧ base ≤ w1.heap.size ∧
      ∀ (p' : Option Addr) (c' : Nat) (w' : World), w'.ownsRow base T 1 (.slice p' (0 + k) c') (0 + k) (xs ++ news) → w1.grownBy w' (Value.slice (some (Addr.mk n0 0 none)) 0 0).ownBlock → X p' c' w' := by
  subst hk
  refine ⟨n0, [], zs.map Value.string, ⟨rfl, .inr ⟨n0, 0, #[], rfl, Nat.le_refl _, hn.block, Nat.le_refl _, by decide, rfl, rfl⟩⟩, by simp, ⟨fun j u hj => ?_, fun u hu => ?_⟩, by omega, by rw [Nat.zero_add]; exact h2, by have := hn.size; omega, fun p' c' w' ho hg => h p' c' w' ho ?_⟩
  · rw [List.getElem?_map] at hj
    cases hz' : zs[j]? with
    | none => rw [hz'] at hj; simp at hj
    | some z =>
      rw [hz'] at hj
      simp at hj
      subst hj
      exact hz j z hz'
  · rw [List.mem_map] at hu
    obtain ⟨z, _, rfl⟩ := hu
    rfl
  · refine (hn.kp _).grown hg (fun k hk => .inl ?_)
    simp only [Value.ownBlock, Option.some.injEq] at hk
    have := hn.ge
    omega
theorem own_base {w : World} {base base' : Nat} {e : TypeId} {size : Nat} {v : Value} {n : Nat} {xs : List Value} (h : w.ownsRow base e size v n xs) (hb : base' ≤ base) : w.ownsRow base' e size v n xs :=
  ⟨h.1, h.2.imp id fun ⟨g, cap, cur, a1, a2, a3⟩ => ⟨g, cap, cur, a1, Nat.le_trans hb a2, a3⟩⟩

set_option maxHeartbeats 1000000 in
theorem to_any (nb ps : ByteArray) (mb dl : Int) (p : Option Addr) (c : Nat) (ds : List ByteArray) (w : World) (hds : StrP w p ds) :
    Calls Tryd.prog 10 #[.agg #[.string nb, .string ps, .int .i64 mb, .int .i64 dl, .slice p ds.length c]] w fun e w' => ∃ (p1 p2 : Option Addr) (c1 c2 : Nat),
      e = .returned (.tuple #[.agg #[.string (nb.extract 0 (min nb.size 40)), .string (ps.extract 0 (min ps.size 300)), .int .i64 mb, .int .i64 dl, .slice p1 (ds.take 10).length c1], .agg #[.string (nb.extract 0 (min nb.size 40)), .string (ps.extract 0 (min ps.size 300)), .int .i64 mb, .int .i64 dl, .slice p2 (ds.take 10).length c2]]) ∧
      w'.ownsRow w.heap.size 9 1 (.slice p1 (ds.take 10).length c1) (ds.take 10).length ((ds.take 10).map Value.string) ∧ w'.ownsRow w.heap.size 9 1 (.slice p2 (ds.take 10).length c2) (ds.take 10).length ((ds.take 10).map Value.string) ∧
      (∀ k, (Value.slice p1 (ds.take 10).length c1).ownBlock = some k → (Value.slice p2 (ds.take 10).length c2).ownBlock ≠ some k) ∧ K0 w w' := by
  refine vc_lto nb ps mb dl p ds.length c w _ ?_
  refine ⟨fun vs w' => ∃ (n n2 : Nat) (p1 p2 : Option Addr) (c1 c2 : Nat), vs = [.pointer (some ⟨n, 0, none⟩), .pointer (some ⟨n2, 0, none⟩)] ∧
      w'.heap[n]? = some (.cells #[.string (nb.extract 0 (min nb.size 40)), .string (ps.extract 0 (min ps.size 300)), .int .i64 mb, .int .i64 dl, .slice p1 (ds.take 10).length c1] 28 (0, 0)) ∧
      w'.heap[n2]? = some (.cells #[.string (nb.extract 0 (min nb.size 40)), .string (ps.extract 0 (min ps.size 300)), .int .i64 mb, .int .i64 dl, .slice p2 (ds.take 10).length c2] 24 (0, 0)) ∧
      w'.ownsRow w.heap.size 9 1 (.slice p1 (ds.take 10).length c1) (ds.take 10).length ((ds.take 10).map Value.string) ∧ w'.ownsRow w.heap.size 9 1 (.slice p2 (ds.take 10).length c2) (ds.take 10).length ((ds.take 10).map Value.string) ∧
      (∀ k, (Value.slice p1 (ds.take 10).length c1).ownBlock = some k → (Value.slice p2 (ds.take 10).length c2).ownBlock ≠ some k) ∧ K0 w w', ?_, ?_⟩
  rotate_left
  · rintro x x1 w' ⟨n, n2, p1, p2, c1, c2, hv, hb, hb2, ho, ho2, hne, hk⟩
    simp only [List.cons.injEq, Value.pointer.injEq, and_true] at hv
    obtain ⟨rfl, rfl⟩ := hv
    exact ⟨_, _, _, _, _, _, _, AtL_block hb rfl, _, _, _, _, _, _, _, AtL_block hb2 rfl, p1, p2, c1, c2, rfl, ho, ho2, hne, hk⟩
  intro n1 w1 hn1 n w2 hn n2 w3 hn2
  have l1 : w.heap.size ≤ n1 := hn1.ge
  have l2 : n1 < n := by have := hn1.size; have := hn.ge; omega
  have l3 : n < n2 := by have := hn.size; have := hn2.ge; omega
  have b1 : w3.drew.heap[n1]? = some (.cells #[.string nb, .string ps, .int .i64 mb, .int .i64 dl, .slice p ds.length c] 24 (0, 0)) := (hn2.kp (fun _ => False)).blk ((hn.kp (fun _ => False)).blk hn1.block (fun h => h)) (fun h => h)
  have b2 := (hn2.kp (fun _ => False)).blk hn.block (fun h => h)
  have b3 := hn2.block
  have k3 : K0 w w3.drew := (((hn1.kp (fun _ => False)).trans (hn.kp _)).trans (hn2.kp _)).drew
  have e40 : (if (40 : Int) < (nb.size : Int) then (40 : Int) else (nb.size : Int)).toNat = min nb.size 40 := by split <;> omega
  have e300 : (if (300 : Int) < (ps.size : Int) then (300 : Int) else (ps.size : Int)).toNat = min ps.size 300 := by split <;> omega
  refine ⟨fun w' => w'.heap[n1]? = some (.cells #[.string nb, .string ps, .int .i64 mb, .int .i64 dl, .slice p ds.length c] 24 (0, 0)), b1, nb, fun w' h => cell_at h rfl, nb, fun w' h => cell_at h rfl, by split <;> omega, ps, fun w' h => cell_at h rfl, ps, fun w' h => cell_at h rfl, by split <;> omega, mb, fun w' h => cell_at h rfl, dl, fun w' h => cell_at h rfl, fun n3 w4 hn4 => ?_⟩
  have b14 := (hn4.kp (fun _ => False)).blk b1 (fun h => h)
  refine ⟨b14, WrL_block hn4.block (by simp), fun w5 hp5 => ?_⟩
  rw [e40, e300] at hp5
  have l4 : n2 < n3 := by have := hn2.size; have : w3.drew.heap.size = w3.heap.size := rfl; have := hn4.ge; omega
  have b45 : w5.heap[n3]? = some (.cells #[.string (nb.extract 0 (min nb.size 40)), .string (ps.extract 0 (min ps.size 300)), .int .i64 mb, .int .i64 dl, .slice none 0 0] 24 (0, 0)) := hp5.full hn4.block rfl
  have b15 := hp5.kp.blk b14 (fun e => by omega)
  have b25 := hp5.kp.blk ((hn4.kp (fun _ => False)).blk (blk_drew b2) (fun h => h)) (fun e => by omega)
  have b35 := hp5.kp.blk ((hn4.kp (fun _ => False)).blk (blk_drew b3) (fun h => h)) (fun e => by omega)
  have k5 : K0 w w5 := (k3.trans (hn4.kp _)).fresh hp5.kp (fun i hi e => by omega)
  have s5 : w5.heap.size = n3 + 1 := by have := hp5.size; have := hn4.size; omega
  clear hn1 hn hn2 hn4 hp5 b14 b1 b2 b3
  refine count1 (min ds.length 10) (by omega) (fun k w' => ∃ p' c', w'.heap[n3]? = some (.cells #[.string (nb.extract 0 (min nb.size 40)), .string (ps.extract 0 (min ps.size 300)), .int .i64 mb, .int .i64 dl, .slice p' k c'] 24 (0, 0)) ∧ w'.ownsRow w5.heap.size 9 1 (.slice p' k c') k ((ds.take k).map Value.string) ∧ Kp (· = n3) w5 w') ⟨none, 0, b45, World.ownsRow_nil _ _ _ _, .refl _ _⟩ ?_
  rintro I m k w6 hk ⟨p', c', b46, ho, hk6⟩ next
  have b16 := hk6.blk b15 (fun e => by omega)
  have k6 : K0 w w6 := k5.fresh hk6 (fun i hi e => by omega)
  refine ⟨p, ds.length, c, cell_at b16 rfl, bsp_intro (fun hlt => ?_) (fun hge => ?_)⟩
  · have hlt' : k < min ds.length 10 := by simp at hlt; omega
    obtain ⟨z, hz⟩ : ∃ z, ds[k]? = some z := ⟨_, List.getElem?_eq_getElem (by omega)⟩
    have htk : ds.take (k + 1) = ds.take k ++ [z] := by rw [List.take_add_one, hz]; rfl
    obtain ⟨bz, oz, rfl, hcz⟩ := hds k z hz
    have e0 : (k : Int).toNat = k := by omega
    refine ⟨fun w' => K0 w6.drew w', .refl _ _, p', k, c', fun w' h => cell_at (h.blk (blk_drew b46) (fun h => h)) rfl, some ⟨bz, oz, none⟩, ds.length, c, fun w' h => cell_at (h.blk (blk_drew b16) (fun h => h)) rfl, ?_⟩
    show (0 ≤ (k : Int) ∧ (k : Int) < (ds.length : Int)) ∧ _
    rw [e0]
    refine ⟨⟨by omega, by omega⟩, z, fun w' h => (k6.drew.trans h).cell' hcz (fun h => h), fun n6 w7 hn7 => ⟨hn7.kp _, ?_⟩⟩
    have ho6 : w6.drew.ownsRow w5.heap.size 9 1 (.slice p' k c') k ((ds.take k).map Value.string) := ho
    refine app1 ho6 hk6.size hn7 rfl (fun u hu => by simp at hu; subst hu; rfl) (by omega) (by omega) (fun p2 c2 w8 ho8 hk8 _ => ?_)
    have b48 := hk8.blk (blk_drew b46) (fun e => by have := own_ge ho6 e; omega)
    refine ⟨cell_wr b48 (by simp), fun w9 hp9 => next hlt' w9 ⟨p2, c2, hp9.block b48, ?_, ?_⟩⟩
    · rw [htk, List.map_append]
      exact owns_kp ho8 hp9.kp (fun k hk e => by have := own_ge ho8 hk; omega)
    · exact ((hk6.drew.fresh hk8 (fun i hi e => by have := own_ge ho6 e; omega)).trans hp9.kp)
  · have hkk : k = min ds.length 10 := by simp at hge; omega
    have htk : ds.take k = ds.take 10 := by
      rw [hkk]
      rcases Nat.le_total ds.length 10 with h | h
      · rw [Nat.min_eq_left h, List.take_length, List.take_of_length_le h]
      · rw [Nat.min_eq_right h]
    have hkl : k = (ds.take 10).length := by rw [List.length_take]; omega
    rw [htk] at ho
    subst hkl
    clear hkk htk
    have b26 := hk6.blk b25 (fun e => by omega)
    have b36 := hk6.blk b35 (fun e => by omega)
    refine ⟨fun w' => w'.heap[n3]? = some (.cells #[.string (nb.extract 0 (min nb.size 40)), .string (ps.extract 0 (min ps.size 300)), .int .i64 mb, .int .i64 dl, .slice p' (ds.take 10).length c'] 24 (0, 0)), blk_drew b46, _, fun w' h => cell_at h rfl, _, fun w' h => cell_at h rfl, mb, fun w' h => cell_at h rfl, dl, fun w' h => cell_at h rfl, p', (ds.take 10).length, c', fun w' h => cell_at h rfl, _, _, mb, dl, p', (ds.take 10).length, c', fun w' h => AtL_block h rfl, fun n7 w7 hn7 => ?_⟩
    have k7 := hn7.kp (fun _ => False)
    have b47 := k7.blk (blk_drew b46) (fun h => h)
    have hlt6 := block_lt b46
    have hz6 : w6.drew.heap.size = w6.heap.size := rfl
    have g7 := hn7.ge
    obtain ⟨_, _, hstr, _, _⟩ := own_strP ho
    have hlen : (ds.take 10).length ≤ 10 := by rw [List.length_take]; omega
    refine ⟨b47, app0 hn7 ((show StrP w6.drew p' (ds.take 10) from hstr).kp k7 (fun _ _ _ h => h)) (by omega) (by omega) rfl (fun q c7 w8 ho8 hk8 => ?_)⟩
    simp only [Nat.zero_add] at ho8 ⊢
    have b48 := hk8.blk (blk_drew b46) (fun h => h)
    have b28 := hk8.blk (blk_drew b26) (fun h => h)
    have b38 := hk8.blk (blk_drew b36) (fun h => h)
    refine ⟨b48, WrL_block b28 (by simp), fun w9 hp9 => ?_⟩
    have b49 := hp9.kp.blk b48 (fun e => by omega)
    have b29 := hp9.full b28 rfl
    have b39 := hp9.kp.blk b38 (fun e => by omega)
    refine ⟨b49, WrL_block b39 (by simp), fun wa hpa => ⟨n, n2, q, p', c7, c', rfl, hpa.kp.blk b29 (fun e => by omega), hpa.full b39 rfl, ?_, ?_, ?_, ?_⟩⟩
    · refine own_base (owns_kp (owns_kp ho8 hp9.kp (fun k hk e => ?_)) hpa.kp (fun k hk e => ?_)) (by have := k6.size; omega)
      · have := own_ge ho8 hk; omega
      · have := own_ge ho8 hk; omega
    · refine own_base (owns_kp (owns_kp (owns_kp (show w6.drew.ownsRow _ _ _ _ _ _ from ho) hk8 (fun _ _ h => h)) hp9.kp (fun k hk e => ?_)) hpa.kp (fun k hk e => ?_)) (by have := k5.size; omega)
      · have := own_ge ho hk; omega
      · have := own_ge ho hk; omega
    · intro k hk1 hk2
      have := own_ge ho8 hk1
      have := own_lt ho hk2
      omega
    · exact ((k6.drew.trans hk8).fresh hp9.kp (fun i hi e => by omega)).fresh hpa.kp (fun i hi e => by omega)

def It.cut (x : It) : It := { x with gs := x.gs.take 20 }
set_option maxHeartbeats 1000000 in
theorem item_any (x : It) (p : Option Addr) (c : Nat) (w : World) (hg : StrP w p x.gs) (hc : x.gs.length ≤ c) :
    Calls Tryd.prog 14 #[.agg (x.cells p c)] w fun e w' => ∃ (p1 p2 : Option Addr) (c1 c2 : Nat),
      e = .returned (.tuple #[.agg (x.cut.cells p1 c1), .agg (x.cut.cells p2 c2)]) ∧
      w'.ownsRow w.heap.size 9 1 (.slice p1 x.cut.gs.length c1) x.cut.gs.length (x.cut.gs.map Value.string) ∧ w'.ownsRow w.heap.size 9 1 (.slice p2 x.cut.gs.length c2) x.cut.gs.length (x.cut.gs.map Value.string) ∧ K0 w w' := by
  refine vc_litem (x.cells p c) w _ ?_
  refine ⟨fun vs w' => ∃ (n n2 : Nat) (p1 p2 : Option Addr) (c1 c2 : Nat), vs = [.pointer (some ⟨n, 0, none⟩), .pointer (some ⟨n2, 0, none⟩)] ∧
      w'.heap[n]? = some (.cells (x.cut.cells p1 c1) 39 (0, 0)) ∧ w'.heap[n2]? = some (.cells (x.cut.cells p2 c2) 27 (0, 0)) ∧
      w'.ownsRow w.heap.size 9 1 (.slice p1 x.cut.gs.length c1) x.cut.gs.length (x.cut.gs.map Value.string) ∧ w'.ownsRow w.heap.size 9 1 (.slice p2 x.cut.gs.length c2) x.cut.gs.length (x.cut.gs.map Value.string) ∧ K0 w w', ?_, ?_⟩
  rotate_left
  · rintro y y1 w' ⟨n, n2, p1, p2, c1, c2, hv, hb, hb2, ho, ho2, hk⟩
    simp only [List.cons.injEq, Value.pointer.injEq, and_true] at hv
    obtain ⟨rfl, rfl⟩ := hv
    exact ⟨x.id, p1, x.cut.gs.length, c1, x.d, x.by_, x.ct, x.fr, x.ar, AtL_block hb rfl, x.id, p2, x.cut.gs.length, c2, x.d, x.by_, x.ct, x.fr, x.ar, AtL_block hb2 rfl, p1, p2, c1, c2, rfl, ho, ho2, hk⟩
  intro n w1 hn n1 w2 hn1 n2 w3 hn2 n3 w4 hn3
  have l0 : w.heap.size ≤ n := hn.ge
  have l1 : n < n1 := by have := hn.size; have := hn1.ge; omega
  have l2 : n1 < n2 := by have := hn1.size; have := hn2.ge; omega
  have l3 : n2 < n3 := by have := hn2.size; have := hn3.ge; omega
  have k3 : K0 w w3 := ((hn.kp (fun _ => False)).trans (hn1.kp _)).trans (hn2.kp _)
  have q1 := (hn1.kp (fun _ => False)).trans (hn2.kp (fun _ => False))
  have q2 := hn2.kp (fun _ => False)
  have q3 := hn3.kp (fun _ => False)
  have b0 := q1.blk hn.block (fun h => h)
  have b1 := q2.blk hn1.block (fun h => h)
  have b2 := hn2.block
  have k4 : K0 w w4 := k3.trans q3
  have b04 := q3.blk b0 (fun h => h)
  have e20 : (if (20 : Int) < (x.gs.length : Int) then (20 : Int) else (x.gs.length : Int)).toNat = (x.gs.take 20).length := by rw [List.length_take]; split <;> omega
  have hl20 : (x.gs.take 20).length ≤ 20 := by rw [List.length_take]; omega
  refine ⟨p, x.gs.length, c, cell_at b04 rfl, p, x.gs.length, c, cell_at b04 rfl, by split <;> omega, ?_⟩
  rw [e20]
  have hg4 : StrP w4 p (x.gs.take 20) := fun j z hj => by
    rw [List.getElem?_take] at hj
    split at hj
    · exact (hg.kp k4 (fun _ _ _ h => h)) j z hj
    · cases hj
  refine app0 hn3 hg4 (by omega) (by omega) rfl (fun p5 c5 w5 ho5 hk5 => ?_)
  rw [Nat.zero_add] at ho5
  have b05 := hk5.blk b0 (fun h => h)
  refine ⟨cell_wr b05 (by rw [It.size]; decide), fun w6 hp6 => ?_⟩
  rw [Nat.zero_add (List.take 20 x.gs).length] at hp6
  have b06 : w6.heap[n]? = some (.cells (x.cut.cells p5 c5) 27 (0, 0)) := hp6.block b05
  have b16 := hp6.kp.blk (hk5.blk b1 (fun h => h)) (fun e => by omega)
  have b26 := hp6.kp.blk (hk5.blk b2 (fun h => h)) (fun e => by omega)
  have ho6 := owns_kp ho5 hp6.kp (fun k hk e => by have := own_ge ho5 hk; omega)
  have k6 : K0 w w6 := (k3.trans hk5).fresh hp6.kp (fun i hi e => by omega)
  obtain ⟨_, _, hs6, _, _⟩ := own_strP ho6
  have g6 : n2 < w6.heap.size := block_lt b26
  refine ⟨fun w' => w'.heap[n]? = some (.cells (x.cut.cells p5 c5) 27 (0, 0)), blk_drew b06, x.id, fun w' h => AtL_block h rfl, p5, (x.gs.take 20).length, c5, fun w' h => cell_at h rfl, x.d, fun w' h => cell_at h rfl, x.by_, fun w' h => cell_at h rfl, x.ct, fun w' h => cell_at h rfl, x.fr, fun w' h => cell_at h rfl, x.ar, fun w' h => cell_at h rfl,
    x.id, p5, (x.gs.take 20).length, c5, x.d, x.by_, x.ct, x.fr, x.ar, fun w' h => AtL_block h rfl, fun n7 w7 hn7 => ?_⟩
  have k7 := hn7.kp (fun _ => False)
  have g7 : w6.heap.size ≤ n7 := hn7.ge
  refine ⟨k7.blk (blk_drew b06) (fun h => h), app0 hn7 ((show StrP w6.drew p5 (x.gs.take 20) from hs6).kp k7 (fun _ _ _ h => h)) (by omega) (by omega) rfl (fun p8 c8 w8 ho8 hk8 => ?_)⟩
  rw [Nat.zero_add] at ho8
  have b08 := hk8.blk (blk_drew b06) (fun h => h)
  have b18 := hk8.blk (blk_drew b16) (fun h => h)
  have b28 := hk8.blk (blk_drew b26) (fun h => h)
  refine ⟨b08, WrL_block b18 (by simp), fun w9 hp9 => ?_⟩
  rw [Nat.zero_add (List.take 20 x.gs).length] at hp9
  have b09 := hp9.kp.blk b08 (fun e => by omega)
  have b29 := hp9.kp.blk b28 (fun e => by omega)
  have b19 : w9.heap[n1]? = some (.cells (x.cut.cells p8 c8) 39 (0, 0)) := hp9.full b18 rfl
  refine ⟨b09, WrL_block b29 (by simp), fun wa hpa => ⟨n1, n2, p8, p5, c8, c5, rfl, hpa.kp.blk b19 (fun e => by omega), hpa.full b29 rfl, ?_, ?_, ?_⟩⟩
  · refine own_base (owns_kp (owns_kp ho8 hp9.kp (fun k hk e => ?_)) hpa.kp (fun k hk e => ?_)) (by have := k6.size; omega)
    · have := own_ge ho8 hk; omega
    · have := own_ge ho8 hk; omega
  · refine own_base (owns_kp (owns_kp (owns_kp (show w6.drew.ownsRow _ _ _ _ _ _ from ho6) hk8 (fun _ _ h => h)) hp9.kp (fun k hk e => ?_)) hpa.kp (fun k hk e => ?_)) (by omega)
    · have := own_ge ho6 hk; omega
    · have := own_ge ho6 hk; omega
  · exact ((k6.drew.trans hk8).fresh hp9.kp (fun i hi e => by omega)).fresh hpa.kp (fun i hi e => by omega)

end Go.Proofs.YtcpjajjocmpkjaaDoor

/- The contract of feedrule's Select, by plain functions. -/
namespace Go.Proofs.YtcpjajjocmpkjaaDoor
open Go.RowKit Go.Maps

abbrev ItA := It × Option Addr × Nat
def itC (y : ItA) : List Value := (y.1.cells y.2.1 y.2.2).toList
theorem itC_length (y : ItA) : (itC y).length = 38 := rfl
/-- Items in the memory. -/
structure ItR (T : TypeId) (base : Nat) (w : World) (p : Option Addr) (n c : Nat) (L : List ItA) : Prop where
  len : n = L.length
  row : w.ownsRow base T 38 (.slice p n c) n (L.flatMap itC)
  gs : ∀ y ∈ L, w.ownsRow base 9 1 (.slice y.2.1 y.1.gs.length y.2.2) y.1.gs.length (y.1.gs.map Value.string)
theorem ItR.kp {T : TypeId} {base : Nat} {w w' : World} {p : Option Addr} {n c : Nat} {L : List ItA} (h : ItR T base w p n c L) (hk : K0 w w') : ItR T base w' p n c L :=
  ⟨h.len, owns_kp h.row hk (fun _ _ h => h), fun y hy => owns_kp (h.gs y hy) hk (fun _ _ h => h)⟩
theorem ItR.at_ {T : TypeId} {base : Nat} {w : World} {p : Option Addr} {n c : Nat} {L : List ItA} (h : ItR T base w p n c L) {k : Nat} {y : ItA} (hy : L[k]? = some y) : ∃ g, p = some ⟨g, 0, none⟩ ∧ AtL w g (0 + k * 38) (itC y) := by
  have key : ∀ j v, (itC y)[j]? = some v → ∃ g, p = some ⟨g, 0, none⟩ ∧ w.cell? ⟨g, k * 38 + j, none⟩ = some v := fun j v hv => own_cellL h.row (by
    have hj : j < 38 := by rw [← itC_length y]; exact (List.getElem?_eq_some_iff.1 hv).1
    rw [flat_get itC 38 L k y j (fun z _ => itC_length z) hy hj]; exact hv)
  obtain ⟨g, hp, _⟩ := key 0 _ (List.getElem?_eq_getElem (by rw [itC_length]; decide))
  refine ⟨g, hp, ⟨At_of _ _ fun j v hv => ?_⟩⟩
  obtain ⟨g', hp', hc⟩ := key j v hv
  rw [hp] at hp'
  simp only [Option.some.injEq, Addr.mk.injEq, and_true] at hp'
  subst hp'
  rw [Nat.zero_add]; exact hc
/-- The candidates. -/
def candsOf (nb : ByteArray) (mb dl : Int) (ds : List ByteArray) (es : List Ent) (now : Int) (l : List It) : List Cand :=
  l.filterMap fun x => if rsnS nb mb ds es x = 0 ∧ dueS dl x.ar ≤ now then some (dueS dl x.ar, x.id) else none
/-- Without those that are there. -/
def ddS : List (List Int) → List (List Int) → List (List Int)
  | acc, [] => acc
  | acc, x :: r => if x ∈ acc then ddS acc r else ddS (acc ++ [x]) r
theorem ddS_cons (acc : List (List Int)) (x : List Int) (r : List (List Int)) : ddS acc (x :: r) = if x ∈ acc then ddS acc r else ddS (acc ++ [x]) r := rfl
def byL (l : List Int) : List Value := l.map (Value.int .u8)
theorem ddS_mem : ∀ (l acc : List (List Int)) (x : List Int), x ∈ ddS acc l ↔ x ∈ acc ∨ x ∈ l
  | [], acc, x => by simp [ddS]
  | y :: r, acc, x => by
    unfold ddS
    split
    · rename_i h
      rw [ddS_mem r acc x, List.mem_cons]
      constructor
      · rintro (h1 | h1)
        · exact .inl h1
        · exact .inr (.inr h1)
      · rintro (h1 | h1 | h1)
        · exact .inl h1
        · subst h1; exact .inl h
        · exact .inr h1
    · rw [ddS_mem r _ x, List.mem_append, List.mem_singleton, List.mem_cons, or_assoc]
theorem candsOf_len (nb : ByteArray) (mb dl : Int) (ds : List ByteArray) (es : List Ent) (now : Int) (l : List It) : (candsOf nb mb dl ds es now l).length ≤ l.length := List.length_filterMap_le _ _
theorem aget_trues {α : Type} [DecidableEq α] (acc : List α) (a : α) : aget (acc.map fun x => (x, Value.bool true)) a = if a ∈ acc then some (.bool true) else none := by
  induction acc with
  | nil => rfl
  | cons y r ih =>
    rw [List.map_cons]
    unfold aget
    by_cases h : y = a
    · subst h; simp
    · rw [if_neg h, ih]
      simp only [List.mem_cons]
      have : ¬ a = y := fun e => h e.symm
      simp [this]
theorem zeroBool (w : World) : (zeroValue 4).run Tryd.prog w = .ok (.bool false) w := by kernel_rfl
theorem idKeyed : Keyed Tryd.prog 37 := Keyed.of_law (deep_law (m := 3) (by omega) (by kernel_rfl) (by kernel_rfl) (by kernel_rfl))
theorem idKey {l : List Int} (hl : l.length = 32) (hb : ∀ x ∈ l, 0 ≤ x ∧ x ≤ 255) : keyOf Tryd.prog 37 (byA l) = some (.string (keyBytes (l.map (Lit.int .u8)))) :=
  keyOf_bytes Tryd.underlying37 Tryd.underlying5 (by kernel_rfl) (by kernel_rfl) (by kernel_rfl) (by decide +kernel) hl hb
theorem idEq {l l' : List Int} (hl : l.length = 32) (hb : ∀ x ∈ l, 0 ≤ x ∧ x ≤ 255) (hl' : l'.length = 32) (hb' : ∀ x ∈ l', 0 ≤ x ∧ x ≤ 255) : EqP Tryd.prog 37 (byA l) (byA l') (decide (l = l')) :=
  eq_bytes Tryd.underlying37 Tryd.underlying5 (by kernel_rfl) (by kernel_rfl) (by kernel_rfl) (by decide +kernel) (by kernel_rfl) (by kernel_rfl) hl hb hl' hb'
theorem idI_len (f : Nat → Int) : (idI f).length = 32 := by simp [idI]
theorem idI_bd {f : Nat → Int} (h : ∀ j, 0 ≤ f j ∧ f j ≤ 255) : ∀ x ∈ idI f, 0 ≤ x ∧ x ≤ 255 := fun x hx => by
  obtain ⟨j, _, rfl⟩ := List.mem_map.1 hx
  exact h j

end Go.Proofs.YtcpjajjocmpkjaaDoor

/- The contract of feedrule's Select. -/
namespace Go.Proofs.YtcpjajjocmpkjaaDoor
open Go.RowKit Go.Maps

set_option maxRecDepth 100000 in
set_option maxHeartbeats 2000000 in
theorem select_any {D : Nat → Prop} {w : World} {b : Nat} {nb ps : ByteArray} {mb dl : Int} {ds : List ByteArray} {es : List Ent} (hf : FeedR D w b nb ps mb dl ds es) (h64 : es.length ≤ 64) (h80 : ∀ e ∈ es, e.els.length ≤ 80) (hl : ds.length ≤ 1073741824) (hdl : 0 ≤ dl ∧ dl ≤ 20160)
    {base : Nat} {p : Option Addr} {n c : Nat} {L : List ItA} (hI : ItR 39 base w p n c L) (hn : n ≤ 1000) (hok : ∀ y ∈ L, y.1.ok ∧ (-9223372036854775808 ≤ y.1.ar ∧ y.1.ar ≤ 9223372036854775807) ∧ ∀ j, 0 ≤ y.1.id j ∧ y.1.id j ≤ 255) (now : Int) :
    Calls Tryd.prog 27 #[.pointer (some ⟨b, 0, none⟩), .slice p n c, .int .i64 now] w fun e w' => ∃ (cs : List Cand) (p' : Option Addr) (c' : Nat),
      cs.Perm (candsOf nb mb dl ds es now (L.map (·.1))) ∧ (∀ (i j : Nat) (x y : Cand), i < j → cs[i]? = some x → cs[j]? = some y → ¬ cfC y x < 0) ∧
      e = .returned (.slice p' (ddS [] (cs.map fun x => idI x.2)).length c') ∧ w'.ownsRow w.heap.size 37 32 (.slice p' (ddS [] (cs.map fun x => idI x.2)).length c') (ddS [] (cs.map fun x => idI x.2)).length ((ddS [] (cs.map fun x => idI x.2)).flatMap byL) ∧ K0 w w' := by
  refine vc_select (some ⟨b, 0, none⟩) p n c now w _ ?_
  have hLn := hI.len
  refine ⟨fun vs w' => ∃ (k : Nat) (p1 : Option Addr) (c1 : Nat), vs = [.int .i64 (k : Int), .slice p1 (candsOf nb mb dl ds es now ((L.take k).map (·.1))).length c1] ∧ k ≤ L.length ∧ w'.ownsRow w.heap.size 101 33 (.slice p1 (candsOf nb mb dl ds es now ((L.take k).map (·.1))).length c1) (candsOf nb mb dl ds es now ((L.take k).map (·.1))).length ((candsOf nb mb dl ds es now ((L.take k).map (·.1))).flatMap candL) ∧ K0 w w',
    fun vs _ => (match vs with | .int _ x :: _ => L.length - x.toNat | _ => 0), ⟨0, none, 0, rfl, by omega, World.ownsRow_nil _ _ _ _, .refl _ _⟩, ?_⟩
  rintro i p1 n1 c1 w1 ⟨k, p1', c1', hv, hk, ho, k1⟩
  simp only [List.cons.injEq, Value.int.injEq, Value.slice.injEq, true_and, and_true] at hv
  obtain ⟨rfl, rfl, rfl, rfl⟩ := hv
  generalize hcs : candsOf nb mb dl ds es now ((L.take k).map (·.1)) = cs at ho
  have hcl : cs.length ≤ k := by
    rw [← hcs]
    refine Nat.le_trans (candsOf_len _ _ _ _ _ _ _) ?_
    rw [List.length_map, List.length_take]; omega
  refine bsp_intro (fun hlt => ?_) (fun hge => ?_)
  · have hlt : k < L.length := by simp at hlt; omega
    obtain ⟨y, hy⟩ : ∃ y, L[k]? = some y := ⟨_, List.getElem?_eq_getElem hlt⟩
    have hyL : y ∈ L := List.mem_of_getElem? hy
    obtain ⟨hxok, har, hid⟩ := hok y hyL
    have htk : (L.take (k + 1)).map (·.1) = (L.take k).map (·.1) ++ [y.1] := by rw [List.take_add_one, hy, List.map_append]; rfl
    have I1 := hI.kp k1
    obtain ⟨g, rfl, hat⟩ := I1.at_ hy
    obtain ⟨_, _, hgs, _, _⟩ := own_strP (I1.gs y hyL)
    show (0 ≤ (k : Int) ∧ (k : Int) < (n : Int)) ∧ _
    rw [Int.toNat_natCast]
    refine ⟨by omega, y.1.id, y.2.1, y.1.gs.length, y.2.2, y.1.d, y.1.by_, y.1.ct, y.1.fr, y.1.ar, hat, fun n2 w2 hn2 => ⟨WrL_block hn2.block (by simp), fun w3 hp3 => ?_⟩⟩
    have b3 : w3.heap[n2]? = some (.cells (y.1.cells y.2.1 y.2.2) 39 (0, 0)) := hp3.full hn2.block rfl
    have k13 : K0 w1 w3 := (hn2.kp (fun _ => False)).fresh hp3.kp (fun i hi e => by have := hn2.ge; omega)
    have k3 : K0 w w3 := k1.trans k13
    refine ⟨y.1.id, y.2.1, y.1.gs.length, y.2.2, y.1.d, y.1.by_, y.1.ct, y.1.fr, y.1.ar, AtL_block b3 rfl, ⟨(due_any (x := y.1) (p := y.2.1) (c := y.2.2) (hf.kp k3 (fun _ _ _ h => h)) (hgs.kp k13 (fun _ _ _ h => h)) h64 h80 hl hxok hdl har).mono fun e w4 ⟨he, hk4⟩ => ?_⟩⟩
    have k14 : K0 w1 w4 := k13.trans hk4
    have k4 : K0 w w4 := k1.trans k14
    have ho4 := owns_kp ho k14 (fun _ _ h => h)
    have b4 := hk4.blk b3 (fun h => h)
    have f1 : IntKind.i64.wrap ((k : Int) + 1) = ((k + 1 : Nat) : Int) := by rw [wr64 (by omega) (by omega)]; omega
    rw [f1]
    have hnext : candsOf nb mb dl ds es now ((L.take (k + 1)).map (·.1)) = cs ++ (if rsnS nb mb ds es y.1 = 0 ∧ dueS dl y.1.ar ≤ now then [(dueS dl y.1.ar, y.1.id)] else []) := by
      rw [htk, ← hcs]
      unfold candsOf
      rw [List.filterMap_append]
      congr 1
      by_cases h : rsnS nb mb ds es y.1 = 0 ∧ dueS dl y.1.ar ≤ now
      · simp [h]
      · simp [h]
    have stay : ¬ (rsnS nb mb ds es y.1 = 0 ∧ dueS dl y.1.ar ≤ now) → (∃ (k' : Nat) (p9 : Option Addr) (c9 : Nat), ([Value.int .i64 ((k + 1 : Nat) : Int), .slice p1 cs.length c1] : List Value) = [.int .i64 (k' : Int), .slice p9 (candsOf nb mb dl ds es now ((L.take k').map (·.1))).length c9] ∧ k' ≤ L.length ∧ w4.ownsRow w.heap.size 101 33 (.slice p9 (candsOf nb mb dl ds es now ((L.take k').map (·.1))).length c9) (candsOf nb mb dl ds es now ((L.take k').map (·.1))).length ((candsOf nb mb dl ds es now ((L.take k').map (·.1))).flatMap candL) ∧ K0 w w4) := fun hno => by
      rw [if_neg hno, List.append_nil] at hnext
      exact ⟨k + 1, p1, c1, by rw [hnext], by omega, by rw [hnext]; exact ho4, k4⟩
    by_cases hr : rsnS nb mb ds es y.1 = 0
    · rw [if_pos hr] at he
      refine ⟨_, _, he, bsp_intro (fun hd => ?_) (fun hd => ⟨stay ?_, by simp only [Int.toNat_natCast]; omega⟩)⟩
      · have hd : dueS dl y.1.ar ≤ now := by simpa using hd
        rw [if_pos ⟨hr, hd⟩] at hnext
        refine ⟨y.1.id, AtL_block b4 rfl, fun n5 w5 hn5 => ?_⟩
        refine app1 ho4 k4.size hn5 rfl (candL_one (dueS dl y.1.ar, y.1.id)) (by omega) (by omega) (fun p6 c6 w6 ho6 hk6 _ => ⟨⟨k + 1, p6, c6, ?_, by omega, ?_, ?_⟩, by simp only [Int.toNat_natCast]; omega⟩)
        · first | (rw [hnext, List.length_append]; done) | (rw [hnext, List.length_append]; rfl)
        · rw [hnext, List.length_append, List.flatMap_append]
          exact ho6
        · exact k4.fresh hk6 (fun i hi e => by have := own_ge ho4 e; omega)
      · rintro ⟨_, h⟩
        have hd : ¬ dueS dl y.1.ar ≤ now := by simpa using hd
        exact hd h
    · rw [if_neg hr] at he
      refine ⟨_, _, he, bsp_intro (fun h => absurd h (by simp)) (fun _ => ⟨stay (fun h => hr h.1), by simp only [Int.toNat_natCast]; omega⟩)⟩
  · have hkL : k = L.length := by simp at hge; omega
    subst hkL
    rw [List.take_length] at hcs
    refine ⟨(sort_any cs p1 cs.length c1 w1 ho (by omega)).mono fun e w2 ⟨he, cs', hperm, hsort, hcell, hk2⟩ => ⟨he, fun n3 w3 hn3 => ?_⟩⟩
    have k2 : K0 w w2 := k1.fresh hk2 (fun i hi e => by have := own_ge ho e; omega)
    have k3 : K0 w2 w3 := hn3.kp _
    have hcl' : cs'.length = cs.length := hperm.length_eq
    have hbd : ∀ x ∈ cs', ∀ j, 0 ≤ x.2 j ∧ x.2 j ≤ 255 := fun x hx j => by
      have hx' : x ∈ cs := hperm.mem_iff.1 hx
      rw [← hcs] at hx'
      unfold candsOf at hx'
      obtain ⟨z, hz, hzx⟩ := List.mem_filterMap.1 hx'
      obtain ⟨y, hyL, rfl⟩ := List.mem_map.1 hz
      split at hzx
      · simp at hzx
        rw [← hzx]
        exact (hok y hyL).2.2 j
      · cases hzx
    refine ⟨fun vs w' => ∃ (k : Nat) (acc : List (List Int)) (p5 : Option Addr) (c5 : Nat), vs = [.int .i64 (k : Int), .slice p5 acc.length c5] ∧ k ≤ cs'.length ∧ acc.length ≤ k ∧ ddS acc ((cs'.drop k).map fun x => idI x.2) = ddS [] (cs'.map fun x => idI x.2) ∧ MapB Tryd.prog 37 byA w' n3 (acc.map fun x => (x, Value.bool true)) ∧ w'.ownsRow (n3 + 1) 37 32 (.slice p5 acc.length c5) acc.length (acc.flatMap byL) ∧ K0 w2 w',
      fun vs _ => (match vs with | .int _ x :: _ => cs'.length - x.toNat | _ => 0), ⟨0, [], none, 0, rfl, by omega, by simp, rfl, hn3.map, World.ownsRow_nil _ _ _ _, k3⟩, ?_⟩
    rintro i p5' n5 c5' w4 ⟨k, acc, p5, c5, hv, hk, hak, hdd, hm4, ho4, k4⟩
    simp only [List.cons.injEq, Value.int.injEq, Value.slice.injEq, true_and, and_true] at hv
    obtain ⟨rfl, rfl, rfl, rfl⟩ := hv
    refine bsp_intro (fun hlt => ?_) (fun hge => ?_)
    · have hlt : k < cs'.length := by simp at hlt; omega
      obtain ⟨y, hy⟩ : ∃ y, cs'[k]? = some y := ⟨_, List.getElem?_eq_getElem hlt⟩
      have hdr : cs'.drop k = y :: cs'.drop (k + 1) := by
        rw [List.drop_eq_getElem_cons hlt]
        rw [List.getElem?_eq_getElem hlt] at hy
        simp at hy
        rw [hy]
      rw [hdr, List.map_cons] at hdd
      obtain ⟨g, rfl, hc⟩ := hcell k y hy
      have hyb := hbd y (List.mem_of_getElem? hy)
      have hkey := idKey (idI_len y.2) (idI_bd hyb)
      show (0 ≤ (k : Int) ∧ (k : Int) < (cs.length : Int)) ∧ _
      rw [Int.toNat_natCast]
      refine ⟨by omega, y.1, y.2, ⟨At_of _ _ fun j v hv => ?_⟩, fun n6 w5 hn5 => ⟨WrL_block hn5.block (by simp), fun w6 hp6 => ?_⟩⟩
      · rw [Nat.zero_add]; exact k4.cell' (hc j v hv) (fun h => h)
      have b6 : w6.heap[n6]? = some (.cells (candL y).toArray 101 (0, 0)) := hp6.full hn5.block rfl
      have g6 : w4.heap.size ≤ n6 := hn5.ge
      have k46 : K0 w4 w6 := (hn5.kp (fun _ => False)).fresh hp6.kp (fun i hi e => by omega)
      have hm6 := hm4.kp k46 (fun h => h)
      have ho6 := owns_kp ho4 k46 (fun _ _ h => h)
      have k6 : K0 w2 w6 := k4.trans k46
      have f1 : IntKind.i64.wrap ((k : Int) + 1) = ((k + 1 : Nat) : Int) := by rw [wr64 (by omega) (by omega)]; omega
      rw [f1]
      have hlook := MapB.look byA_inj hm6 idKeyed Tryd.underlying107 (zeroBool w6) hkey false
      rw [aget_trues] at hlook
      have hn36 : n3 < w6.heap.size := hm6.lt
      have hn34 : n3 < w4.heap.size := hm4.lt
      have hn32 : w2.heap.size ≤ n3 := hn3.ge
      refine ⟨y.2, AtL_block b6 rfl, decide (idI y.2 ∈ acc), ?_, ?_⟩
      · by_cases h : idI y.2 ∈ acc
        · simp only [h, if_true, Option.getD_some] at hlook
          simp only [h, decide_true]
          exact hlook
        · simp only [h, if_false, Option.getD_none] at hlook
          simp only [h, decide_false]
          exact hlook
      refine bsp_intro (fun h => ?_) (fun h => ?_)
      · have h : ¬ idI y.2 ∈ acc := by simpa using h
        rw [ddS_cons, if_neg h] at hdd
        obtain ⟨w7, hu, hm7, hk7⟩ := MapB.upd byA_inj hm6 idKeyed Tryd.underlying107 hkey (.bool true)
        have b7 := hk7.blk b6 (fun e => by omega)
        have hset : aset (acc.map fun x => (x, Value.bool true)) (idI y.2) (.bool true) = (acc ++ [idI y.2]).map fun x => (x, Value.bool true) := by
          rw [aset_new (fun q hq e => by
            obtain ⟨x, hx, rfl⟩ := List.mem_map.1 hq
            exact h (by rw [← e]; exact hx)), List.map_append]
          rfl
        rw [hset] at hm7
        have ho7 := owns_kp ho6 hk7 (fun i hi e => by have := own_ge ho6 hi; omega)
        have k7 : K0 w2 w7 := k6.fresh hk7 (fun i hi e => by omega)
        have s7 := hk7.size
        refine ⟨y.2, AtL_block b6 rfl, w7, hu, y.2, AtL_block b7 rfl, fun n8 w8 hn8 => ?_⟩
        refine app1 ho7 (by omega) hn8 rfl (fun u hu => by
          have hu : u ∈ arrI .u8 y.2 32 0 := hu
          rw [arrI_idI] at hu
          obtain ⟨x, _, rfl⟩ := List.mem_map.1 hu
          rfl) (by omega) (by omega) (fun p9 c9 w9 ho9 hk9 _ => ⟨⟨k + 1, acc ++ [idI y.2], p9, c9, ?_, by omega, ?_, hdd, hm7.kp hk9 (fun e => by have := own_ge ho7 e; omega), ?_, ?_⟩, by simp only [Int.toNat_natCast]; omega⟩)
        · rw [List.length_append]; rfl
        · rw [List.length_append]; simp; omega
        · rw [List.length_append, List.flatMap_append]
          have : ([idI y.2].flatMap byL) = arrI .u8 y.2 32 0 := by rw [arrI_idI]; simp [byL]
          rw [this]
          exact ho9
        · exact k7.fresh hk9 (fun i hi e => by have := own_ge ho7 e; omega)
      · have h : idI y.2 ∈ acc := by simpa using h
        rw [ddS_cons, if_pos h] at hdd
        exact ⟨⟨k + 1, acc, p5', c5', rfl, by omega, by omega, hdd, hm6, ho6, k6⟩, by simp only [Int.toNat_natCast]; omega⟩
    · have : k = cs'.length := by simp at hge; omega
      subst this
      rw [List.drop_length] at hdd
      have hdd : acc = ddS [] (cs'.map fun x => idI x.2) := hdd
      refine ⟨cs', p5', c5', ?_, hsort, by rw [← hdd], ?_, k2.trans k4⟩
      · rw [hcs]; exact hperm
      · rw [← hdd]
        exact own_base ho4 (by have := hn3.ge; have := k2.size; omega)

end Go.Proofs.YtcpjajjocmpkjaaDoor
