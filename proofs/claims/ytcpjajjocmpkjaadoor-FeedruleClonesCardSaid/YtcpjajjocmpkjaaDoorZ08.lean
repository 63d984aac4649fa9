/- The formulas of functions by the symbolic evaluator, and that each gives the call's contract. Written by a program (gen.py). No condition. -/
import Derived.Test.YtcpjajjocmpkjaaDoorProg
import Derived.Test.YtcpjajjocmpkjaaDoorZ02
import Derived.Test.YtcpjajjocmpkjaaDoorZ04
import Derived.KernelRfl
import Derived.Test.YtcpjajjocmpkjaaDoorZ07
namespace Go.Proofs.YtcpjajjocmpkjaaDoor
set_option maxRecDepth 100000
set_option linter.unusedVariables false

def VC_lto (nb : ByteArray) (ps : ByteArray) (mb : Int) (dl : Int) (p : Option Addr) (n : Nat) (c : Nat) (w : World) (R : Ending → World → Prop) : Prop :=
 ∃ (J : List Value → World → Prop),
 (∀ (n_1 : Nat) (w1 : World),
 NewB w
 (Obj.cells
 #[Value.string nb, Value.string ps, Value.int IntKind.i64 mb, Value.int IntKind.i64 dl, Value.slice p n c] 24)
 n_1 w1 →
 ∀ (n : Nat) (w1_1 : World),
 NewB w1
 (Obj.cells
 #[Value.string (ByteArray.mk #[]), Value.string (ByteArray.mk #[]), Value.int IntKind.i64 0,
 Value.int IntKind.i64 0, Value.slice none 0 0]
 28)
 n w1_1 →
 ∀ (n_2 : Nat) (w1 : World),
 NewB w1_1
 (Obj.cells
 #[Value.string (ByteArray.mk #[]), Value.string (ByteArray.mk #[]), Value.int IntKind.i64 0,
 Value.int IntKind.i64 0, Value.slice none 0 0]
 24)
 n_2 w1 →
 ∃ (S : World → Prop),
 S w1.drew ∧
 ∃ (x : ByteArray),
 (∀ (w' : World), S w' → w'.cell? (Addr.mk n_1 0 none) = some (Value.string x)) ∧
 ∃ (x_1 : ByteArray),
 (∀ (w' : World), S w' → w'.cell? (Addr.mk n_1 0 none) = some (Value.string x_1)) ∧
 ((0 ≤ if 40 < (↑x_1.size : Int) then 40 else (↑x_1.size : Int)) ∧
 (if 40 < (↑x_1.size : Int) then 40 else (↑x_1.size : Int)) ≤ (↑x.size : Int)) ∧
 ∃ (x_2 : ByteArray),
 (∀ (w' : World), S w' → w'.cell? (Addr.mk n_1 (0 + 1) none) = some (Value.string x_2)) ∧
 ∃ (x_3 : ByteArray),
 (∀ (w' : World), S w' → w'.cell? (Addr.mk n_1 (0 + 1) none) = some (Value.string x_3)) ∧
 ((0 ≤ if 300 < (↑x_3.size : Int) then 300 else (↑x_3.size : Int)) ∧
 (if 300 < (↑x_3.size : Int) then 300 else (↑x_3.size : Int)) ≤ (↑x_2.size : Int)) ∧
 ∃ (x_4 : Int),
 (∀ (w' : World), S w' → w'.cell? (Addr.mk n_1 (0 + 2) none) = some (Value.int IntKind.i64 x_4)) ∧
 ∃ (x_5 : Int),
 (∀ (w' : World), S w' → w'.cell? (Addr.mk n_1 (0 + 3) none) = some (Value.int IntKind.i64 x_5)) ∧
 ∀ (n_3 : Nat) (w1_2 : World),
 NewB w1.drew
 (Obj.cells
 #[Value.string (ByteArray.mk #[]), Value.string (ByteArray.mk #[]), Value.int IntKind.i64 0,
 Value.int IntKind.i64 0, Value.slice none 0 0]
 24)
 n_3 w1_2 →
 S w1_2 ∧
 WrL w1_2 n_3 0 5 ∧
 ∀ (w1 : World),
 PutB w1_2 n_3 0
 [Value.string
 (x.extract 0 (if 40 < (↑x_1.size : Int) then 40 else (↑x_1.size : Int)).toNat),
 Value.string
 (x_2.extract 0 (if 300 < (↑x_3.size : Int) then 300 else (↑x_3.size : Int)).toNat),
 Value.int IntKind.i64 x_4, Value.int IntKind.i64 x_5, Value.slice none 0 0]
 w1 →
 ∃ (I : List Value → World → Prop),
 ∃ (m : List Value → World → Nat),
 I [Value.int IntKind.i64 0] w1 ∧
 ∀ (x : Int) (w' : World),
 I [Value.int IntKind.i64 x] w' →
 ∃ (p : Option Addr),
 ∃ (n_4 : Nat),
 ∃ (c : Nat),
 w'.cell? (Addr.mk n_1 (0 + 4) none) = some (Value.slice p n_4 c) ∧
 bsp (decide (x < (↑n_4 : Int)) && decide (x < 10))
 (∃ (S : World → Prop),
 S w'.drew ∧
 ∃ (p : Option Addr),
 ∃ (n : Nat),
 ∃ (c : Nat),
 (∀ (w' : World),
 S w' → w'.cell? (Addr.mk n_3 (0 + 4) none) = some (Value.slice p n c)) ∧
 ∃ (p_1 : Option Addr),
 ∃ (n_5 : Nat),
 ∃ (c_1 : Nat),
 (∀ (w' : World),
 S w' →
 w'.cell? (Addr.mk n_1 (0 + 4) none) =
 some (Value.slice p_1 n_5 c_1)) ∧
 nn true p_1 fun (b o : Nat) =>
 (0 ≤ x ∧ x < (↑n_5 : Int)) ∧
 ∃ (x_6 : ByteArray),
 (∀ (w' : World),
 S w' →
 w'.cell? (Addr.mk b (o + x.toNat) none) =
 some (Value.string x_6)) ∧
 ∀ (n_6 : Nat) (w1 : World),
 NewB w'.drew (Obj.cells #[Value.string x_6] 9) n_6 w1 →
 S w1 ∧
 ∃ (base : Nat),
 ∃ (xs : List Value),
 ∃ (news : List Value),
 w1.ownsRow base 9 1 (Value.slice p n c) n xs ∧
 news.length = 1 ∧
 SrcP w1 (some (Addr.mk n_6 0 none)) news ∧
 n + 1 ≤ 9223372036854775807 ∧
 (n + 1) * 16 ≤ 140737488355328 ∧
 base ≤ w1.heap.size ∧
 ∀ (p' : Option Addr) (c' : Nat) (w'_1 : World),
 w'_1.ownsRow base 9 1 (Value.slice p' (n + 1) c')
 (n + 1) (xs ++ news) →
 w1.grownBy w'_1 (Value.slice p n c).ownBlock →
 ((∃ (u : Value),
 w'_1.cell? (Addr.mk n_3 (0 + 4) none) =
 some u) ∧
 w'_1.frozen? (Addr.mk n_3 (0 + 4) none) =
 false) ∧
 ∀ (w1 : World),
 PutB w'_1 n_3 (0 + 4) [Value.slice p' (n + 1) c']
 w1 →
 I
 [Value.int IntKind.i64
 (IntKind.i64.wrap (x + 1))]
 w1 ∧
 m
 [Value.int IntKind.i64
 (IntKind.i64.wrap (x + 1))]
 w1 <
 m [Value.int IntKind.i64 x] w')
 (∃ (S : World → Prop),
 S w'.drew ∧
 ∃ (x : ByteArray),
 (∀ (w' : World),
 S w' → w'.cell? (Addr.mk n_3 0 none) = some (Value.string x)) ∧
 ∃ (x_6 : ByteArray),
 (∀ (w' : World),
 S w' → w'.cell? (Addr.mk n_3 (0 + 1) none) = some (Value.string x_6)) ∧
 ∃ (x_7 : Int),
 (∀ (w' : World),
 S w' →
 w'.cell? (Addr.mk n_3 (0 + 2) none) =
 some (Value.int IntKind.i64 x_7)) ∧
 ∃ (x_8 : Int),
 (∀ (w' : World),
 S w' →
 w'.cell? (Addr.mk n_3 (0 + 3) none) =
 some (Value.int IntKind.i64 x_8)) ∧
 ∃ (p : Option Addr),
 ∃ (n_5 : Nat),
 ∃ (c : Nat),
 (∀ (w' : World),
 S w' →
 w'.cell? (Addr.mk n_3 (0 + 4) none) =
 some (Value.slice p n_5 c)) ∧
 ∃ (x_9 : ByteArray),
 ∃ (x_10 : ByteArray),
 ∃ (x_11 : Int),
 ∃ (x_12 : Int),
 ∃ (p_1 : Option Addr),
 ∃ (n_6 : Nat),
 ∃ (c : Nat),
 (∀ (w' : World),
 S w' →
 AtL w' n_3 0
 [Value.string x_9, Value.string x_10,
 Value.int IntKind.i64 x_11,
 Value.int IntKind.i64 x_12, Value.slice p_1 n_6 c]) ∧
 ∀ (n_7 : Nat) (w1 : World),
 NewB w'.drew (Obj.cells #[] 9) n_7 w1 →
 S w1 ∧
 ∃ (base : Nat),
 ∃ (xs : List Value),
 ∃ (news : List Value),
 w1.ownsRow base 9 1
 (Value.slice (some (Addr.mk n_7 0 none)) 0 0) 0
 xs ∧
 news.length = n_5 * 1 ∧
 SrcP w1 p news ∧
 0 + n_5 ≤ 9223372036854775807 ∧
 (0 + n_5) * 16 ≤ 140737488355328 ∧
 base ≤ w1.heap.size ∧
 ∀ (p' : Option Addr) (c' : Nat) (w' : World),
 w'.ownsRow base 9 1
 (Value.slice p' (0 + n_5) c') (0 + n_5)
 (xs ++ news) →
 w1.grownBy w'
 (Value.slice (some (Addr.mk n_7 0 none)) 0
 0).ownBlock →
 S w' ∧
 WrL w' n 0 5 ∧
 ∀ (w1 : World),
 PutB w' n 0
 [Value.string x, Value.string x_6,
 Value.int IntKind.i64 x_7,
 Value.int IntKind.i64 x_8,
 Value.slice p' (0 + n_5) c']
 w1 →
 S w1 ∧
 WrL w1 n_2 0 5 ∧
 ∀ (w1_3 : World),
 PutB w1 n_2 0
 [Value.string x_9,
 Value.string x_10,
 Value.int IntKind.i64 x_11,
 Value.int IntKind.i64 x_12,
 Value.slice p_1 n_6 c]
 w1_3 →
 J
 [Value.pointer
 (some (Addr.mk n 0 none)),
 Value.pointer
 (some (Addr.mk n_2 0 none))]
 w1_3)) ∧
 ∀ (x x_1 : Option Addr) (w' : World),
 J [Value.pointer x, Value.pointer x_1] w' →
 nn true x fun (b o : Nat) =>
 ∃ (x : ByteArray),
 ∃ (x_2 : ByteArray),
 ∃ (x_3 : Int),
 ∃ (x_4 : Int),
 ∃ (p : Option Addr),
 ∃ (n : Nat),
 ∃ (c : Nat),
 AtL w' b o
 [Value.string x, Value.string x_2, Value.int IntKind.i64 x_3, Value.int IntKind.i64 x_4,
 Value.slice p n c] ∧
 nn true x_1 fun (b o : Nat) =>
 ∃ (x_5 : ByteArray),
 ∃ (x_6 : ByteArray),
 ∃ (x_7 : Int),
 ∃ (x_8 : Int),
 ∃ (p_1 : Option Addr),
 ∃ (n_1 : Nat),
 ∃ (c_1 : Nat),
 AtL w' b o
 [Value.string x_5, Value.string x_6, Value.int IntKind.i64 x_7, Value.int IntKind.i64 x_8,
 Value.slice p_1 n_1 c_1] ∧
 R
 (Ending.returned
 (Value.tuple
 #[Value.agg
 #[Value.string x, Value.string x_2, Value.int IntKind.i64 x_3, Value.int IntKind.i64 x_4,
 Value.slice p n c],
 Value.agg
 #[Value.string x_5, Value.string x_6, Value.int IntKind.i64 x_7, Value.int IntKind.i64 x_8,
 Value.slice p_1 n_1 c_1]]))
 w'
theorem vc_lto (nb : ByteArray) (ps : ByteArray) (mb : Int) (dl : Int) (p : Option Addr) (n : Nat) (c : Nat) (w : World) (R : Ending → World → Prop) (h : VC_lto nb ps mb dl p n c w R) : Calls Tryd.prog 10 ([Value.agg
    #[Value.string nb, Value.string ps, Value.int IntKind.i64 mb, Value.int IntKind.i64 dl,
      Value.slice p n c]] : List Value).toArray w R := by
  have e : execR { P := Tryd.prog, loops := [(3, [(5, Ck.int IntKind.i64)])], pur := pur1, tails := [(1, 19), (5, 7), (6, 8)], joins := [(999999, [(2, .ptr), (3, .ptr)])], boxes := [] } Tryd.f10.results.toList R (Tryd.f10.body.getD .skip) (initF [Value.agg
    #[Value.string nb, Value.string ps, Value.int IntKind.i64 mb, Value.int IntKind.i64 dl,
      Value.slice p n
        c]] (Tryd.f10.ntmps - ([Value.agg
    #[Value.string nb, Value.string ps, Value.int IntKind.i64 mb, Value.int IntKind.i64 dl,
      Value.slice p n c]] : List Value).length)) w = VC_lto nb ps mb dl p n c w R := by kernel_rfl
  have hb : Tryd.f10.body = some (Tryd.f10.body.getD .skip) := by kernel_rfl
  exact calls_of_exec' (P := Tryd.prog) (fn := Tryd.f10) (c := Tryd.f10.body.getD .skip) (args := [Value.agg
    #[Value.string nb, Value.string ps, Value.int IntKind.i64 mb, Value.int IntKind.i64 dl,
      Value.slice p n c]]) (w := w) (R := R) pur1_ok Tryd.func10 hb e h

def VC_litem (a : Array Value) (w : World) (R : Ending → World → Prop) : Prop :=
 ∃ (J : List Value → World → Prop),
 (∀ (n : Nat) (w1 : World),
 NewB w (Obj.cells a 27) n w1 →
 ∀ (n_1 : Nat) (w1_1 : World),
 NewB w1
 (Obj.cells
 #[Value.int IntKind.u8 0, Value.int IntKind.u8 0, Value.int IntKind.u8 0, Value.int IntKind.u8 0,
 Value.int IntKind.u8 0, Value.int IntKind.u8 0, Value.int IntKind.u8 0, Value.int IntKind.u8 0,
 Value.int IntKind.u8 0, Value.int IntKind.u8 0, Value.int IntKind.u8 0, Value.int IntKind.u8 0,
 Value.int IntKind.u8 0, Value.int IntKind.u8 0, Value.int IntKind.u8 0, Value.int IntKind.u8 0,
 Value.int IntKind.u8 0, Value.int IntKind.u8 0, Value.int IntKind.u8 0, Value.int IntKind.u8 0,
 Value.int IntKind.u8 0, Value.int IntKind.u8 0, Value.int IntKind.u8 0, Value.int IntKind.u8 0,
 Value.int IntKind.u8 0, Value.int IntKind.u8 0, Value.int IntKind.u8 0, Value.int IntKind.u8 0,
 Value.int IntKind.u8 0, Value.int IntKind.u8 0, Value.int IntKind.u8 0, Value.int IntKind.u8 0,
 Value.slice none 0 0, Value.string (ByteArray.mk #[]), Value.int IntKind.i64 0, Value.bool false,
 Value.string (ByteArray.mk #[]), Value.int IntKind.i64 0]
 39)
 n_1 w1_1 →
 ∀ (n_2 : Nat) (w1 : World),
 NewB w1_1
 (Obj.cells
 #[Value.int IntKind.u8 0, Value.int IntKind.u8 0, Value.int IntKind.u8 0, Value.int IntKind.u8 0,
 Value.int IntKind.u8 0, Value.int IntKind.u8 0, Value.int IntKind.u8 0, Value.int IntKind.u8 0,
 Value.int IntKind.u8 0, Value.int IntKind.u8 0, Value.int IntKind.u8 0, Value.int IntKind.u8 0,
 Value.int IntKind.u8 0, Value.int IntKind.u8 0, Value.int IntKind.u8 0, Value.int IntKind.u8 0,
 Value.int IntKind.u8 0, Value.int IntKind.u8 0, Value.int IntKind.u8 0, Value.int IntKind.u8 0,
 Value.int IntKind.u8 0, Value.int IntKind.u8 0, Value.int IntKind.u8 0, Value.int IntKind.u8 0,
 Value.int IntKind.u8 0, Value.int IntKind.u8 0, Value.int IntKind.u8 0, Value.int IntKind.u8 0,
 Value.int IntKind.u8 0, Value.int IntKind.u8 0, Value.int IntKind.u8 0, Value.int IntKind.u8 0,
 Value.slice none 0 0, Value.string (ByteArray.mk #[]), Value.int IntKind.i64 0, Value.bool false,
 Value.string (ByteArray.mk #[]), Value.int IntKind.i64 0]
 27)
 n_2 w1 →
 ∀ (n_3 : Nat) (w1_2 : World),
 NewB w1 (Obj.cells #[] 9) n_3 w1_2 →
 ∃ (p : Option Addr),
 ∃ (n_4 : Nat),
 ∃ (c : Nat),
 w1_2.cell? (Addr.mk n (0 + 32) none) = some (Value.slice p n_4 c) ∧
 ∃ (p_1 : Option Addr),
 ∃ (n_5 : Nat),
 ∃ (c_1 : Nat),
 w1_2.cell? (Addr.mk n (0 + 32) none) = some (Value.slice p_1 n_5 c_1) ∧
 ((0 ≤ if 20 < (↑n_5 : Int) then 20 else (↑n_5 : Int)) ∧
 (if 20 < (↑n_5 : Int) then 20 else (↑n_5 : Int)) ≤ (↑c : Int)) ∧
 ∃ (base : Nat),
 ∃ (xs : List Value),
 ∃ (news : List Value),
 w1_2.ownsRow base 9 1 (Value.slice (some (Addr.mk n_3 0 none)) 0 0) 0 xs ∧
 news.length = (if 20 < (↑n_5 : Int) then 20 else (↑n_5 : Int)).toNat * 1 ∧
 SrcP w1_2 p news ∧
 0 + (if 20 < (↑n_5 : Int) then 20 else (↑n_5 : Int)).toNat ≤ 9223372036854775807 ∧
 (0 + (if 20 < (↑n_5 : Int) then 20 else (↑n_5 : Int)).toNat) * 16 ≤ 140737488355328 ∧
 base ≤ w1_2.heap.size ∧
 ∀ (p' : Option Addr) (c' : Nat) (w' : World),
 w'.ownsRow base 9 1
 (Value.slice p' (0 + (if 20 < (↑n_5 : Int) then 20 else (↑n_5 : Int)).toNat) c')
 (0 + (if 20 < (↑n_5 : Int) then 20 else (↑n_5 : Int)).toNat) (xs ++ news) →
 w1_2.grownBy w' (Value.slice (some (Addr.mk n_3 0 none)) 0 0).ownBlock →
 ((∃ (u : Value), w'.cell? (Addr.mk n (0 + 32) none) = some u) ∧
 w'.frozen? (Addr.mk n (0 + 32) none) = false) ∧
 ∀ (w1 : World),
 PutB w' n (0 + 32)
 [Value.slice p' (0 + (if 20 < (↑n_5 : Int) then 20 else (↑n_5 : Int)).toNat) c'] w1 →
 ∃ (S : World → Prop),
 S w1.drew ∧
 ∃ (f : Nat → Int),
 (∀ (w' : World),
 S w' →
 AtL w' n 0
 (arrI IntKind.u8 f 32 0)) ∧
 ∃ (p : Option Addr),
 ∃ (n_6 : Nat),
 ∃ (c : Nat),
 (∀ (w' : World),
 S w' → w'.cell? (Addr.mk n (0 + 32) none) = some (Value.slice p n_6 c)) ∧
 ∃ (x : ByteArray),
 (∀ (w' : World),
 S w' → w'.cell? (Addr.mk n (0 + 33) none) = some (Value.string x)) ∧
 ∃ (x_1 : Int),
 (∀ (w' : World),
 S w' →
 w'.cell? (Addr.mk n (0 + 34) none) = some (Value.int IntKind.i64 x_1)) ∧
 ∃ (x_2 : Bool),
 (∀ (w' : World),
 S w' → w'.cell? (Addr.mk n (0 + 35) none) = some (Value.bool x_2)) ∧
 ∃ (x_3 : ByteArray),
 (∀ (w' : World),
 S w' →
 w'.cell? (Addr.mk n (0 + 36) none) = some (Value.string x_3)) ∧
 ∃ (x_4 : Int),
 (∀ (w' : World),
 S w' →
 w'.cell? (Addr.mk n (0 + 37) none) =
 some (Value.int IntKind.i64 x_4)) ∧
 ∃ (f_1 : Nat → Int),
 ∃ (p_2 : Option Addr),
 ∃ (n_7 : Nat),
 ∃ (c : Nat),
 ∃ (x_5 : ByteArray),
 ∃ (x_6 : Int),
 ∃ (x_7 : Bool),
 ∃ (x_8 : ByteArray),
 ∃ (x_9 : Int),
 (∀ (w' : World),
 S w' →
 AtL w' n 0
 (arrI IntKind.u8 f_1 32 0 ++ [Value.slice p_2 n_7 c,
 Value.string x_5, Value.int IntKind.i64 x_6,
 Value.bool x_7, Value.string x_8,
 Value.int IntKind.i64 x_9])) ∧
 ∀ (n : Nat) (w1_3 : World),
 NewB w1.drew (Obj.cells #[] 9) n w1_3 →
 S w1_3 ∧
 ∃ (base : Nat),
 ∃ (xs : List Value),
 ∃ (news : List Value),
 w1_3.ownsRow base 9 1
 (Value.slice (some (Addr.mk n 0 none)) 0 0) 0 xs ∧
 news.length = n_6 * 1 ∧
 SrcP w1_3 p news ∧
 0 + n_6 ≤ 9223372036854775807 ∧
 (0 + n_6) * 16 ≤ 140737488355328 ∧
 base ≤ w1_3.heap.size ∧
 ∀ (p' : Option Addr) (c' : Nat) (w' : World),
 w'.ownsRow base 9 1
 (Value.slice p' (0 + n_6) c') (0 + n_6)
 (xs ++ news) →
 w1_3.grownBy w'
 (Value.slice (some (Addr.mk n 0 none)) 0
 0).ownBlock →
 S w' ∧
 WrL w' n_1 0 38 ∧
 ∀ (w1 : World),
 PutB w' n_1 0
 (arrI IntKind.u8 f 32 0 ++ [Value.slice p' (0 + n_6) c',
 Value.string x,
 Value.int IntKind.i64 x_1,
 Value.bool x_2, Value.string x_3,
 Value.int IntKind.i64 x_4])
 w1 →
 S w1 ∧
 WrL w1 n_2 0 38 ∧
 ∀ (w1_4 : World),
 PutB w1 n_2 0
 (arrI IntKind.u8 f_1 32 0 ++ [Value.slice p_2 n_7 c,
 Value.string x_5,
 Value.int IntKind.i64 x_6,
 Value.bool x_7, Value.string x_8,
 Value.int IntKind.i64 x_9])
 w1_4 →
 J
 [Value.pointer
 (some (Addr.mk n_1 0 none)),
 Value.pointer
 (some (Addr.mk n_2 0 none))]
 w1_4) ∧
 ∀ (x x_1 : Option Addr) (w' : World),
 J [Value.pointer x, Value.pointer x_1] w' →
 nn true x fun (b o : Nat) =>
 ∃ (f : Nat → Int),
 ∃ (p : Option Addr),
 ∃ (n : Nat),
 ∃ (c : Nat),
 ∃ (x : ByteArray),
 ∃ (x_2 : Int),
 ∃ (x_3 : Bool),
 ∃ (x_4 : ByteArray),
 ∃ (x_5 : Int),
 AtL w' b o
 (arrI IntKind.u8 f 32 0 ++ [Value.slice p n c, Value.string x,
 Value.int IntKind.i64 x_2, Value.bool x_3, Value.string x_4, Value.int IntKind.i64 x_5]) ∧
 nn true x_1 fun (b o : Nat) =>
 ∃ (f_1 : Nat → Int),
 ∃ (p_1 : Option Addr),
 ∃ (n_1 : Nat),
 ∃ (c_1 : Nat),
 ∃ (x_6 : ByteArray),
 ∃ (x_7 : Int),
 ∃ (x_8 : Bool),
 ∃ (x_9 : ByteArray),
 ∃ (x_10 : Int),
 AtL w' b o
 (arrI IntKind.u8 f_1 32 0 ++ [Value.slice p_1 n_1 c_1,
 Value.string x_6, Value.int IntKind.i64 x_7, Value.bool x_8, Value.string x_9,
 Value.int IntKind.i64 x_10]) ∧
 R
 (Ending.returned
 (Value.tuple
 #[Value.agg
 (arrI IntKind.u8 f 32 0 ++ [Value.slice p n c,
 Value.string x, Value.int IntKind.i64 x_2, Value.bool x_3, Value.string x_4,
 Value.int IntKind.i64 x_5]).toArray,
 Value.agg
 (arrI IntKind.u8 f_1 32 0 ++ [Value.slice p_1 n_1 c_1,
 Value.string x_6, Value.int IntKind.i64 x_7, Value.bool x_8, Value.string x_9,
 Value.int IntKind.i64 x_10]).toArray]))
 w'
theorem vc_litem (a : Array Value) (w : World) (R : Ending → World → Prop) (h : VC_litem a w R) : Calls Tryd.prog 14 ([Value.agg
    a] : List Value).toArray w R := by
  have e : execR { P := Tryd.prog, loops := [], pur := pur1, tails := [(2, 2)], joins := [(999999, [(2, .ptr), (3, .ptr)])], boxes := [] } Tryd.f14.results.toList R (Tryd.f14.body.getD .skip) (initF [Value.agg
    a] (Tryd.f14.ntmps - ([Value.agg a] : List Value).length)) w = VC_litem a w R := by kernel_rfl
  have hb : Tryd.f14.body = some (Tryd.f14.body.getD .skip) := by kernel_rfl
  exact calls_of_exec' (P := Tryd.prog) (fn := Tryd.f14) (c := Tryd.f14.body.getD .skip) (args := [Value.agg
    a]) (w := w) (R := R) pur1_ok Tryd.func14 hb e h

def VC_quotas (lim : Int) (p : Option Addr) (n : Nat) (c : Nat) (at_ : Int) (w : World) (R : Ending → World → Prop) : Prop :=
 CallsS Tryd.prog 19 #[Value.int IntKind.i64 lim] w fun (e : Ending) (w' : World) =>
 ∃ (x : Option Addr),
 ∃ (x_1 : Int),
 e = Ending.returned (Value.tuple #[Value.pointer x, Value.int IntKind.i64 x_1]) ∧
 bsp (decide (lim < 0) || decide (lim > 1099511627776))
 (CallsS Tryd.prog 12 #[] w' fun (e : Ending) (w' : World) =>
 ∃ (x_2 : Bool),
 e = Ending.returned (Value.bool x_2) ∧ R (Ending.returned (Value.bool (x_2 && x.isNone && x_1 == 2))) w')
 (CallsS Tryd.prog 12 #[] w' fun (e : Ending) (w' : World) =>
 ∃ (x_2 : Bool),
 e = Ending.returned (Value.bool x_2) ∧
 bsp (!x_2 || x.isNone || x_1 != 0) (R (Ending.returned (Value.bool false)) w')
 (∀ (n_1 : Nat) (w1 : World),
 NewB w' (Obj.cells #[Value.int IntKind.i64 0, Value.int IntKind.i64 0, Value.int IntKind.i64 0] 52) n_1 w1 →
 WrL w1 n_1 0 3 ∧
 ∀ (w1_1 : World),
 PutB w1 n_1 0 [Value.int IntKind.i64 lim, Value.int IntKind.i64 0, Value.int IntKind.i64 0] w1_1 →
 ∃ (I : List Value → World → Prop),
 ∃ (m : List Value → World → Nat),
 I [Value.int IntKind.i64 0] w1_1 ∧
 ∀ (x_3 : Int) (w' : World),
 I [Value.int IntKind.i64 x_3] w' →
 bsp (decide (x_3 < (↑n : Int)) && decide (x_3 < 60))
 (∃ (J : List Value → World → Prop),
 (∃ (S : World → Prop),
 S w'.drew ∧
 ∃ (x : Int),
 ∃ (x_4 : Int),
 ∃ (x_5 : Int),
 (∀ (w' : World),
 S w' →
 AtL w' n_1 0
 [Value.int IntKind.i64 x, Value.int IntKind.i64 x_4, Value.int IntKind.i64 x_5]) ∧
 nn true p fun (b o : Nat) =>
 (0 ≤ x_3 ∧ x_3 < (↑n : Int)) ∧
 ∃ (x_6 : Int),
 (∀ (w' : World),
 S w' →
 w'.cell? (Addr.mk b (o + x_3.toNat * 2) none) = some (Value.int IntKind.i64 x_6)) ∧
 nn true p fun (b o : Nat) =>
 (0 ≤ x_3 ∧ x_3 < (↑n : Int)) ∧
 ∃ (x_7 : Int),
 (∀ (w' : World),
 S w' →
 w'.cell? (Addr.mk b (o + x_3.toNat * 2 + 1) none) =
 some (Value.int IntKind.i64 x_7)) ∧
 (CallsS Tryd.prog 20
 #[Value.agg
 #[Value.int IntKind.i64 x, Value.int IntKind.i64 x_4,
 Value.int IntKind.i64 x_5],
 Value.int IntKind.i64 x_6, Value.int IntKind.i64 x_7]
 w'.drew fun (e : Ending) (w' : World) =>
 ∃ (x : Int),
 ∃ (x_8 : Int),
 ∃ (x_9 : Int),
 ∃ (x_10 : Int),
 e =
 Ending.returned
 (Value.tuple
 #[Value.agg
 #[Value.int IntKind.i64 x, Value.int IntKind.i64 x_8,
 Value.int IntKind.i64 x_9],
 Value.int IntKind.i64 x_10]) ∧
 ∀ (n : Nat) (w1 : World),
 NewB w'
 (Obj.cells
 #[Value.int IntKind.i64 0, Value.int IntKind.i64 0,
 Value.int IntKind.i64 0]
 52)
 n w1 →
 S w1 ∧
 WrL w1 n 0 3 ∧
 ∀ (w1_2 : World),
 PutB w1 n 0
 [Value.int IntKind.i64 x, Value.int IntKind.i64 x_8,
 Value.int IntKind.i64 x_9]
 w1_2 →
 J [Value.pointer (some (Addr.mk n 0 none)), Value.int IntKind.i64 x_10]
 w1_2) ∧
 ∀ (n : Nat) (w1 : World),
 NewB w'.drew
 (Obj.cells
 #[Value.int IntKind.i64 0, Value.int IntKind.i64 0, Value.int IntKind.i64 0]
 52)
 n w1 →
 S w1 ∧
 CallsS Tryd.prog 20
 #[Value.agg
 #[Value.int IntKind.i64 x, Value.int IntKind.i64 x_4,
 Value.int IntKind.i64 x_5],
 Value.int IntKind.i64 x_6, Value.int IntKind.i64 x_7]
 w1 fun (e : Ending) (w' : World) =>
 ∃ (x : Int),
 ∃ (x_8 : Int),
 ∃ (x_9 : Int),
 ∃ (x_10 : Int),
 e =
 Ending.returned
 (Value.tuple
 #[Value.agg
 #[Value.int IntKind.i64 x, Value.int IntKind.i64 x_8,
 Value.int IntKind.i64 x_9],
 Value.int IntKind.i64 x_10]) ∧
 WrL w' n 0 3 ∧
 ∀ (w1 : World),
 PutB w' n 0
 [Value.int IntKind.i64 x, Value.int IntKind.i64 x_8,
 Value.int IntKind.i64 x_9]
 w1 →
 J [Value.pointer (some (Addr.mk n 0 none)), Value.int IntKind.i64 x_10]
 w1) ∧
 ∀ (x_4 : Option Addr) (x_5 : Int) (w'_1 : World),
 J [Value.pointer x_4, Value.int IntKind.i64 x_5] w'_1 →
 ∃ (S : World → Prop),
 S w'_1.drew ∧
 nn true p fun (b o : Nat) =>
 (0 ≤ x_3 ∧ x_3 < (↑n : Int)) ∧
 ∃ (x_6 : Int),
 (∀ (w' : World),
 S w' →
 w'.cell? (Addr.mk b (o + x_3.toNat * 2) none) = some (Value.int IntKind.i64 x_6)) ∧
 nn true p fun (b o : Nat) =>
 (0 ≤ x_3 ∧ x_3 < (↑n : Int)) ∧
 ∃ (x_7 : Int),
 (∀ (w' : World),
 S w' →
 w'.cell? (Addr.mk b (o + x_3.toNat * 2 + 1) none) =
 some (Value.int IntKind.i64 x_7)) ∧
 CallsS Tryd.prog 21
 #[Value.pointer x, Value.int IntKind.i64 x_6, Value.int IntKind.i64 x_7] w'_1.drew
 fun (e : Ending) (w'_2 : World) =>
 ∃ (x_8 : Int),
 e = Ending.returned (Value.int IntKind.i64 x_8) ∧
 S w'_2 ∧
 nn (!x_8 != x_5) p fun (b o : Nat) =>
 gimp (!x_8 != x_5) (0 ≤ x_3 ∧ x_3 < (↑n : Int)) ∧
 ∃ (x_9 : Int),
 gimp (!x_8 != x_5)
 (∀ (w' : World),
 S w' →
 w'.cell? (Addr.mk b (o + x_3.toNat * 2 + 1) none) =
 some (Value.int IntKind.i64 x_9)) ∧
 nn (!x_8 != x_5) x_4 fun (b o : Nat) =>
 ∃ (x_10 : Int),
 ∃ (x_11 : Int),
 ∃ (x_12 : Int),
 gimp (!x_8 != x_5)
 (∀ (w' : World),
 S w' →
 AtL w' b o
 [Value.int IntKind.i64 x_10, Value.int IntKind.i64 x_11,
 Value.int IntKind.i64 x_12]) ∧
 nn (!x_8 != x_5) p fun (b o : Nat) =>
 gimp (!x_8 != x_5) (0 ≤ x_3 ∧ x_3 < (↑n : Int)) ∧
 ∃ (x_13 : Int),
 gimp (!x_8 != x_5)
 (∀ (w' : World),
 S w' →
 w'.cell? (Addr.mk b (o + x_3.toNat * 2 + 1) none) =
 some (Value.int IntKind.i64 x_13)) ∧
 bsp (!x_8 != x_5)
 (CallsS Tryd.prog 22 #[Value.pointer x, Value.int IntKind.i64 x_9]
 w'_2 fun (e : Ending) (w'_3 : World) =>
 ∃ (x_14 : Int),
 e = Ending.returned (Value.int IntKind.i64 x_14) ∧
 S w'_3 ∧
 CallsS Tryd.prog 23
 #[Value.agg
 #[Value.int IntKind.i64 x_10, Value.int IntKind.i64 x_11,
 Value.int IntKind.i64 x_12],
 Value.int IntKind.i64 x_13]
 w'_3 fun (e : Ending) (w'_4 : World) =>
 ∃ (x_15 : Int),
 e = Ending.returned (Value.int IntKind.i64 x_15) ∧
 S w'_4 ∧
 nn (!(false || x_14 != x_15)) x_4 fun (b o : Nat) =>
 ∃ (x_16 : Int),
 ∃ (x_17 : Int),
 ∃ (x_18 : Int),
 gimp (!(false || x_14 != x_15))
 (∀ (w' : World),
 S w' →
 AtL w' b o
 [Value.int IntKind.i64 x_16,
 Value.int IntKind.i64 x_17,
 Value.int IntKind.i64 x_18]) ∧
 bsp (!(false || x_14 != x_15))
 (CallsS Tryd.prog 22
 #[Value.pointer x, Value.int IntKind.i64 at_] w'_4
 fun (e : Ending) (w'_5 : World) =>
 ∃ (x : Int),
 e = Ending.returned (Value.int IntKind.i64 x) ∧
 S w'_5 ∧
 CallsS Tryd.prog 23
 #[Value.agg
 #[Value.int IntKind.i64 x_16,
 Value.int IntKind.i64 x_17,
 Value.int IntKind.i64 x_18],
 Value.int IntKind.i64 at_]
 w'_5 fun (e : Ending) (w'_6 : World) =>
 ∃ (x_19 : Int),
 e =
 Ending.returned (Value.int IntKind.i64 x_19) ∧
 bsp (false || x != x_19)
 (R (Ending.returned (Value.bool false)) w'_6)
 (nn true x_4 fun (b o : Nat) =>
 ∃ (x : Int),
 ∃ (x_20 : Int),
 ∃ (x_21 : Int),
 AtL w'_6 b o
 [Value.int IntKind.i64 x,
 Value.int IntKind.i64 x_20,
 Value.int IntKind.i64 x_21] ∧
 WrL w'_6 n_1 0 3 ∧
 ∀ (w1 : World),
 PutB w'_6 n_1 0
 [Value.int IntKind.i64 x,
 Value.int IntKind.i64 x_20,
 Value.int IntKind.i64 x_21]
 w1 →
 I
 [Value.int IntKind.i64
 (IntKind.i64.wrap (x_3 + 1))]
 w1 ∧
 m
 [Value.int IntKind.i64
 (IntKind.i64.wrap (x_3 + 1))]
 w1 <
 m [Value.int IntKind.i64 x_3] w'))
 (S w'_4 ∧
 R (Ending.returned (Value.bool false)) w'_4))
 (S w'_2 ∧
 S w'_2 ∧
 nn (!true) x_4 fun (b o : Nat) =>
 ∃ (x : Int),
 ∃ (x : Int),
 ∃ (x : Int),
 True ∧ S w'_2 ∧ R (Ending.returned (Value.bool false)) w'_2))
 (R (Ending.returned (Value.bool true)) w')))
theorem vc_quotas (lim : Int) (p : Option Addr) (n : Nat) (c : Nat) (at_ : Int) (w : World) (R : Ending → World → Prop) (h : VC_quotas lim p n c at_ w R) : Calls Tryd.prog 5 ([Value.int
    IntKind.i64 lim,
  Value.slice p n c, Value.int IntKind.i64 at_] : List Value).toArray w R := by
  have e : execR { P := Tryd.prog, loops := [(8, [(10, Ck.int IntKind.i64)])], pur := pur1, tails := [(10, 11), (11, 11)], joins := [(11, [(11, .ptr), (12, Ck.int IntKind.i64)])], boxes := [] } Tryd.f5.results.toList R (Tryd.f5.body.getD .skip) (initF [Value.int
    IntKind.i64 lim,
  Value.slice p n c,
  Value.int IntKind.i64
    at_] (Tryd.f5.ntmps - ([Value.int IntKind.i64 lim, Value.slice p n c,
  Value.int IntKind.i64 at_] : List Value).length)) w = VC_quotas lim p n c at_ w R := by kernel_rfl
  have hb : Tryd.f5.body = some (Tryd.f5.body.getD .skip) := by kernel_rfl
  exact calls_of_exec' (P := Tryd.prog) (fn := Tryd.f5) (c := Tryd.f5.body.getD .skip) (args := [Value.int IntKind.i64
    lim,
  Value.slice p n c, Value.int IntKind.i64 at_]) (w := w) (R := R) pur1_ok Tryd.func5 hb e h

def VC_controls (nb : ByteArray) (ps : ByteArray) (mb : Int) (dl : Int) (p : Option Addr) (n : Nat) (c : Nat) (a : Array Value) (w : World) (R : Ending → World → Prop) : Prop :=
 ∀ (n_1 : Nat) (w1 : World),
 NewB w
 (Obj.cells #[Value.string nb, Value.string ps, Value.int IntKind.i64 mb, Value.int IntKind.i64 dl, Value.slice p n c]
 24)
 n_1 w1 →
 ∀ (n : Nat) (w1_1 : World),
 NewB w1 (Obj.cells a 27) n w1_1 →
 ∃ (x : ByteArray),
 ∃ (x_1 : ByteArray),
 ∃ (x_2 : Int),
 ∃ (x_3 : Int),
 ∃ (p : Option Addr),
 ∃ (n_2 : Nat),
 ∃ (c : Nat),
 AtL w1_1 n_1 0
 [Value.string x, Value.string x_1, Value.int IntKind.i64 x_2, Value.int IntKind.i64 x_3,
 Value.slice p n_2 c] ∧
 CallsS Tryd.prog 10
 #[Value.agg
 #[Value.string x, Value.string x_1, Value.int IntKind.i64 x_2, Value.int IntKind.i64 x_3,
 Value.slice p n_2 c]]
 w1_1 fun (e : Ending) (w' : World) =>
 ∃ (x : ByteArray),
 ∃ (x_4 : ByteArray),
 ∃ (x_5 : Int),
 ∃ (x_6 : Int),
 ∃ (p : Option Addr),
 ∃ (n_3 : Nat),
 ∃ (c : Nat),
 ∃ (x_7 : ByteArray),
 ∃ (x_8 : ByteArray),
 ∃ (x_9 : Int),
 ∃ (x_10 : Int),
 ∃ (p_1 : Option Addr),
 ∃ (n_4 : Nat),
 ∃ (c_1 : Nat),
 e =
 Ending.returned
 (Value.tuple
 #[Value.agg
 #[Value.string x, Value.string x_4, Value.int IntKind.i64 x_5,
 Value.int IntKind.i64 x_6, Value.slice p n_3 c],
 Value.agg
 #[Value.string x_7, Value.string x_8, Value.int IntKind.i64 x_9,
 Value.int IntKind.i64 x_10, Value.slice p_1 n_4 c_1]]) ∧
 ∀ (n_5 : Nat) (w1 : World),
 NewB w'
 (Obj.cells
 #[Value.string (ByteArray.mk #[]), Value.string (ByteArray.mk #[]),
 Value.int IntKind.i64 0, Value.int IntKind.i64 0, Value.slice none 0 0]
 28)
 n_5 w1 →
 ∀ (n_6 : Nat) (w1_2 : World),
 NewB w1
 (Obj.cells
 #[Value.string (ByteArray.mk #[]), Value.string (ByteArray.mk #[]),
 Value.int IntKind.i64 0, Value.int IntKind.i64 0, Value.slice none 0 0]
 24)
 n_6 w1_2 →
 WrL w1_2 n_5 0 5 ∧
 ∀ (w1 : World),
 PutB w1_2 n_5 0
 [Value.string x, Value.string x_4, Value.int IntKind.i64 x_5,
 Value.int IntKind.i64 x_6, Value.slice p n_3 c]
 w1 →
 WrL w1 n_6 0 5 ∧
 ∀ (w1_3 : World),
 PutB w1 n_6 0
 [Value.string x_7, Value.string x_8, Value.int IntKind.i64 x_9,
 Value.int IntKind.i64 x_10, Value.slice p_1 n_4 c_1]
 w1_3 →
 ∃ (x : ByteArray),
 ∃ (x_11 : ByteArray),
 ∃ (x_12 : Int),
 ∃ (x_13 : Int),
 ∃ (p : Option Addr),
 ∃ (n_7 : Nat),
 ∃ (c : Nat),
 AtL w1_3 n_5 0
 [Value.string x, Value.string x_11, Value.int IntKind.i64 x_12,
 Value.int IntKind.i64 x_13, Value.slice p n_7 c] ∧
 CallsS Tryd.prog 11
 #[Value.agg
 #[Value.string x, Value.string x_11, Value.int IntKind.i64 x_12,
 Value.int IntKind.i64 x_13, Value.slice p n_7 c]]
 w1_3 fun (e : Ending) (w' : World) =>
 ∃ (x : Option Addr),
 ∃ (x_14 : Int),
 e =
 Ending.returned
 (Value.tuple #[Value.pointer x, Value.int IntKind.i64 x_14]) ∧
 bsp (x_14 != 0 || x.isNone)
 (CallsS Tryd.prog 12 #[] w' fun (e : Ending) (w' : World) =>
 ∃ (x : Bool),
 e = Ending.returned (Value.bool x) ∧
 R (Ending.returned (Value.bool x)) w')
 (∃ (f : Nat → Int),
 ∃ (p : Option Addr),
 ∃ (n_8 : Nat),
 ∃ (c : Nat),
 ∃ (x_15 : ByteArray),
 ∃ (x_16 : Int),
 ∃ (x_17 : Bool),
 ∃ (x_18 : ByteArray),
 ∃ (x_19 : Int),
 AtL w' n 0
 (arrI IntKind.u8 f 32 0 ++ [Value.slice p n_8 c, Value.string x_15,
 Value.int IntKind.i64 x_16, Value.bool x_17,
 Value.string x_18, Value.int IntKind.i64 x_19]) ∧
 CallsS Tryd.prog 14
 #[Value.agg
 (arrI IntKind.u8 f 32 0 ++ [Value.slice p n_8 c,
 Value.string x_15, Value.int IntKind.i64 x_16,
 Value.bool x_17, Value.string x_18,
 Value.int IntKind.i64 x_19]).toArray]
 w' fun (e : Ending) (w' : World) =>
 ∃ (f : Nat → Int),
 ∃ (p : Option Addr),
 ∃ (n : Nat),
 ∃ (c : Nat),
 ∃ (x_20 : ByteArray),
 ∃ (x_21 : Int),
 ∃ (x_22 : Bool),
 ∃ (x_23 : ByteArray),
 ∃ (x_24 : Int),
 ∃ (f_1 : Nat → Int),
 ∃ (p_2 : Option Addr),
 ∃ (n_9 : Nat),
 ∃ (c_2 : Nat),
 ∃ (x_25 : ByteArray),
 ∃ (x_26 : Int),
 ∃ (x_27 : Bool),
 ∃ (x_28 : ByteArray),
 ∃ (x_29 : Int),
 e =
 Ending.returned
 (Value.tuple
 #[Value.agg
 (arrI IntKind.u8 f 32 0 ++ [Value.slice p n c,
 Value.string x_20,
 Value.int IntKind.i64 x_21,
 Value.bool x_22,
 Value.string x_23,
 Value.int IntKind.i64 x_24]).toArray,
 Value.agg
 (arrI IntKind.u8 f_1 32 0 ++ [Value.slice p_2 n_9 c_2,
 Value.string x_25,
 Value.int IntKind.i64 x_26,
 Value.bool x_27,
 Value.string x_28,
 Value.int IntKind.i64 x_29]).toArray]) ∧
 ∀ (n_10 : Nat) (w1 : World),
 NewB w'
 (Obj.cells
 #[Value.int IntKind.u8 0,
 Value.int IntKind.u8 0,
 Value.int IntKind.u8 0,
 Value.int IntKind.u8 0,
 Value.int IntKind.u8 0,
 Value.int IntKind.u8 0,
 Value.int IntKind.u8 0,
 Value.int IntKind.u8 0,
 Value.int IntKind.u8 0,
 Value.int IntKind.u8 0,
 Value.int IntKind.u8 0,
 Value.int IntKind.u8 0,
 Value.int IntKind.u8 0,
 Value.int IntKind.u8 0,
 Value.int IntKind.u8 0,
 Value.int IntKind.u8 0,
 Value.int IntKind.u8 0,
 Value.int IntKind.u8 0,
 Value.int IntKind.u8 0,
 Value.int IntKind.u8 0,
 Value.int IntKind.u8 0,
 Value.int IntKind.u8 0,
 Value.int IntKind.u8 0,
 Value.int IntKind.u8 0,
 Value.int IntKind.u8 0,
 Value.int IntKind.u8 0,
 Value.int IntKind.u8 0,
 Value.int IntKind.u8 0,
 Value.int IntKind.u8 0,
 Value.int IntKind.u8 0,
 Value.int IntKind.u8 0,
 Value.int IntKind.u8 0,
 Value.slice none 0 0,
 Value.string (ByteArray.mk #[]),
 Value.int IntKind.i64 0,
 Value.bool false,
 Value.string (ByteArray.mk #[]),
 Value.int IntKind.i64 0]
 39)
 n_10 w1 →
 ∀ (n_11 : Nat) (w1_4 : World),
 NewB w1
 (Obj.cells
 #[Value.int IntKind.u8 0,
 Value.int IntKind.u8 0,
 Value.int IntKind.u8 0,
 Value.int IntKind.u8 0,
 Value.int IntKind.u8 0,
 Value.int IntKind.u8 0,
 Value.int IntKind.u8 0,
 Value.int IntKind.u8 0,
 Value.int IntKind.u8 0,
 Value.int IntKind.u8 0,
 Value.int IntKind.u8 0,
 Value.int IntKind.u8 0,
 Value.int IntKind.u8 0,
 Value.int IntKind.u8 0,
 Value.int IntKind.u8 0,
 Value.int IntKind.u8 0,
 Value.int IntKind.u8 0,
 Value.int IntKind.u8 0,
 Value.int IntKind.u8 0,
 Value.int IntKind.u8 0,
 Value.int IntKind.u8 0,
 Value.int IntKind.u8 0,
 Value.int IntKind.u8 0,
 Value.int IntKind.u8 0,
 Value.int IntKind.u8 0,
 Value.int IntKind.u8 0,
 Value.int IntKind.u8 0,
 Value.int IntKind.u8 0,
 Value.int IntKind.u8 0,
 Value.int IntKind.u8 0,
 Value.int IntKind.u8 0,
 Value.int IntKind.u8 0,
 Value.slice none 0 0,
 Value.string (ByteArray.mk #[]),
 Value.int IntKind.i64 0,
 Value.bool false,
 Value.string (ByteArray.mk #[]),
 Value.int IntKind.i64 0]
 27)
 n_11 w1_4 →
 WrL w1_4 n_10 0 38 ∧
 ∀ (w1 : World),
 PutB w1_4 n_10 0
 (arrI IntKind.u8 f 32 0 ++ [Value.slice p n c,
 Value.string x_20,
 Value.int IntKind.i64 x_21,
 Value.bool x_22,
 Value.string x_23,
 Value.int IntKind.i64 x_24])
 w1 →
 WrL w1 n_11 0 38 ∧
 ∀ (w1_5 : World),
 PutB w1 n_11 0
 (arrI IntKind.u8 f_1 32 0 ++ [Value.slice p_2 n_9 c_2,
 Value.string x_25,
 Value.int IntKind.i64 x_26,
 Value.bool x_27,
 Value.string x_28,
 Value.int IntKind.i64 x_29])
 w1_5 →
 ((∃ (u : Value),
 w1_5.cell?
 (Addr.mk n_10 (0 + 35)
 none) =
 some u) ∧
 w1_5.frozen?
 (Addr.mk n_10 (0 + 35)
 none) =
 false) ∧
 ∀ (w1 : World),
 PutB w1_5 n_10 (0 + 35)
 [Value.bool true] w1 →
 ∃ (S : World → Prop),
 S w1.drew ∧
 ∃ (f : Nat → Int),
 ∃ (p : Option Addr),
 ∃ (n : Nat),
 ∃ (c : Nat),
 ∃ (x_30 :
 ByteArray),
 ∃ (x_31 : Int),
 ∃ (x_32 : Bool),
 ∃ (x_33 :
 ByteArray),
 ∃ (x_34 : Int),
 (∀
 (w' : World),
 S w' →
 AtL w' n_10
 0
 (arrI IntKind.u8 f 32 0 ++ [Value.slice
 p n c,
 Value.string
 x_30,
 Value.int
 IntKind.i64
 x_31,
 Value.bool
 x_32,
 Value.string
 x_33,
 Value.int
 IntKind.i64
 x_34])) ∧
 ∃ (x_35 :
 ByteArray),
 (∀
 (w' :
 World),
 S w' →
 w'.cell?
 (Addr.mk
 n_10
 (0 +
 36)
 none) =
 some
 (Value.string
 x_35)) ∧
 ∃ (x_36 :
 ByteArray),
 (∀
 (w' :
 World),
 S w' →
 w'.cell?
 (Addr.mk
 n_5 0
 none) =
 some
 (Value.string
 x_36)) ∧
 CallsS
 Tryd.prog
 17
 #[Value.pointer
 x,
 Value.agg
 (arrI IntKind.u8 f 32 0 ++ [Value.slice
 p n
 c,
 Value.string
 x_30,
 Value.int
 IntKind.i64
 x_31,
 Value.bool
 x_32,
 Value.string
 x_33,
 Value.int
 IntKind.i64
 x_34]).toArray]
 w1.drew
 fun
 (e :
 Ending)
 (w' :
 World) =>
 ∃ (x_37 :
 Int),
 e =
 Ending.returned
 (Value.int
 IntKind.i64
 x_37) ∧
 S w' ∧
 bsp
 (!(x_37 ==
 0) ==
 !x_35.toList ==
 x_36.toList)
 (R
 (Ending.returned
 (Value.bool
 false))
 w')
 (∃ (S
 :
 World →
 Prop),
 S
 w'.drew ∧
 ∃
 (x_38
 :
 ByteArray),
 (∀
 (w' :
 World),
 S
 w' →
 w'.cell?
 (Addr.mk
 n_5
 0
 none) =
 some
 (Value.string
 x_38)) ∧
 ((∃
 (u
 :
 Value),
 w'.drew.cell?
 (Addr.mk
 n_10
 (0 +
 35)
 none) =
 some
 u) ∧
 w'.drew.frozen?
 (Addr.mk
 n_10
 (0 +
 35)
 none) =
 false) ∧
 ∀
 (w1 :
 World),
 PutB
 w'.drew
 n_10
 (0 +
 35)
 [Value.bool
 false]
 w1 →
 S
 w1 ∧
 ((∃
 (u
 :
 Value),
 w1.cell?
 (Addr.mk
 n_10
 (0 +
 36)
 none) =
 some
 u) ∧
 w1.frozen?
 (Addr.mk
 n_10
 (0 +
 36)
 none) =
 false) ∧
 ∀
 (w1_6 :
 World),
 PutB
 w1
 n_10
 (0 +
 36)
 [Value.string
 x_38]
 w1_6 →
 ∃
 (f
 :
 Nat →
 Int),
 ∃
 (p
 :
 Option
 Addr),
 ∃
 (n
 :
 Nat),
 ∃
 (c
 :
 Nat),
 ∃
 (x_39
 :
 ByteArray),
 ∃
 (x_40
 :
 Int),
 ∃
 (x_41
 :
 Bool),
 ∃
 (x_42
 :
 ByteArray),
 ∃
 (x_43
 :
 Int),
 AtL
 w1_6
 n_10
 0
 (arrI IntKind.u8 f 32 0 ++ [Value.slice
 p
 n
 c,
 Value.string
 x_39,
 Value.int
 IntKind.i64
 x_40,
 Value.bool
 x_41,
 Value.string
 x_42,
 Value.int
 IntKind.i64
 x_43]) ∧
 CallsS
 Tryd.prog
 16
 #[Value.pointer
 x,
 Value.agg
 (arrI IntKind.u8 f 32 0 ++ [Value.slice
 p
 n
 c,
 Value.string
 x_39,
 Value.int
 IntKind.i64
 x_40,
 Value.bool
 x_41,
 Value.string
 x_42,
 Value.int
 IntKind.i64
 x_43]).toArray]
 w1_6
 fun
 (e :
 Ending)
 (w' :
 World) =>
 ∃
 (x_44
 :
 Int),
 ∃
 (x_45
 :
 Bool),
 e =
 Ending.returned
 (Value.tuple
 #[Value.int
 IntKind.i64
 x_44,
 Value.bool
 x_45]) ∧
 CallsS
 Tryd.prog
 12
 #[]
 w'
 fun
 (e :
 Ending)
 (w' :
 World) =>
 ∃
 (x_46
 :
 Bool),
 e =
 Ending.returned
 (Value.bool
 x_46) ∧
 ∃
 (f
 :
 Nat →
 Int),
 ∃
 (p
 :
 Option
 Addr),
 ∃
 (n
 :
 Nat),
 ∃
 (c
 :
 Nat),
 ∃
 (x_47
 :
 ByteArray),
 ∃
 (x_48
 :
 Int),
 ∃
 (x_49
 :
 Bool),
 ∃
 (x_50
 :
 ByteArray),
 ∃
 (x_51
 :
 Int),
 gimp
 x_46
 (AtL
 w'
 n_10
 0
 (arrI IntKind.u8 f 32 0 ++ [Value.slice
 p
 n
 c,
 Value.string
 x_47,
 Value.int
 IntKind.i64
 x_48,
 Value.bool
 x_49,
 Value.string
 x_50,
 Value.int
 IntKind.i64
 x_51])) ∧
 bsp
 x_46
 (CallsS
 Tryd.prog
 17
 #[Value.pointer
 x,
 Value.agg
 (arrI IntKind.u8 f 32 0 ++ [Value.slice
 p
 n
 c,
 Value.string
 x_47,
 Value.int
 IntKind.i64
 x_48,
 Value.bool
 x_49,
 Value.string
 x_50,
 Value.int
 IntKind.i64
 x_51]).toArray]
 w'
 fun
 (e :
 Ending)
 (w' :
 World) =>
 ∃
 (x
 :
 Int),
 e =
 Ending.returned
 (Value.int
 IntKind.i64
 x) ∧
 R
 (Ending.returned
 (Value.bool
 (true &&
 x ==
 1 &&
 !x_45)))
 w')
 (R
 (Ending.returned
 (Value.bool
 (false &&
 !x_45)))
 w')))
theorem vc_controls (nb : ByteArray) (ps : ByteArray) (mb : Int) (dl : Int) (p : Option Addr) (n : Nat) (c : Nat) (a : Array Value) (w : World) (R : Ending → World → Prop) (h : VC_controls nb ps mb dl p n c a w R) : Calls Tryd.prog 4 ([Value.agg
    #[Value.string nb, Value.string ps, Value.int IntKind.i64 mb, Value.int IntKind.i64 dl, Value.slice p n c],
  Value.agg a] : List Value).toArray w R := by
  have e : execR { P := Tryd.prog, loops := [], pur := pur1, tails := [(7, 2), (9, 3)], joins := [], boxes := [] } Tryd.f4.results.toList R (Tryd.f4.body.getD .skip) (initF [Value.agg
    #[Value.string nb, Value.string ps, Value.int IntKind.i64 mb, Value.int IntKind.i64 dl, Value.slice p n c],
  Value.agg
    a] (Tryd.f4.ntmps - ([Value.agg
    #[Value.string nb, Value.string ps, Value.int IntKind.i64 mb, Value.int IntKind.i64 dl, Value.slice p n c],
  Value.agg a] : List Value).length)) w = VC_controls nb ps mb dl p n c a w R := by kernel_rfl
  have hb : Tryd.f4.body = some (Tryd.f4.body.getD .skip) := by kernel_rfl
  exact calls_of_exec' (P := Tryd.prog) (fn := Tryd.f4) (c := Tryd.f4.body.getD .skip) (args := [Value.agg
    #[Value.string nb, Value.string ps, Value.int IntKind.i64 mb, Value.int IntKind.i64 dl, Value.slice p n c],
  Value.agg a]) (w := w) (R := R) pur1_ok Tryd.func4 hb e h

def VC_bounds (lim : Int) (p : Option Addr) (n : Nat) (c : Nat) (w : World) (R : Ending → World → Prop) : Prop :=
 CallsS Tryd.prog 19 #[Value.int IntKind.i64 lim] w fun (e : Ending) (w' : World) =>
 ∃ (x : Option Addr),
 ∃ (x_1 : Int),
 e = Ending.returned (Value.tuple #[Value.pointer x, Value.int IntKind.i64 x_1]) ∧
 CallsS Tryd.prog 12 #[] w' fun (e : Ending) (w' : World) =>
 ∃ (x_2 : Bool),
 e = Ending.returned (Value.bool x_2) ∧
 bsp (!x_2 || x_1 != 0 || lim == 0)
 (CallsS Tryd.prog 12 #[] w' fun (e : Ending) (w' : World) =>
 ∃ (x : Bool), e = Ending.returned (Value.bool x) ∧ R (Ending.returned (Value.bool x)) w')
 (∀ (n_1 : Nat) (w1 : World),
 NewB w' (Obj.map #[] 0) n_1 w1 →
 ∃ (I : List Value → World → Prop),
 ∃ (m : List Value → World → Nat),
 I [Value.int IntKind.i64 0] w1 ∧
 ∀ (x_3 : Int) (w' : World),
 I [Value.int IntKind.i64 x_3] w' →
 bsp (decide (x_3 < (↑n : Int)) && decide (x_3 < 60))
 (nn true p fun (b o : Nat) =>
 (0 ≤ x_3 ∧ x_3 < (↑n : Int)) ∧
 ∃ (x_4 : Int),
 w'.drew.cell? (Addr.mk b (o + x_3.toNat * 2) none) = some (Value.int IntKind.i64 x_4) ∧
 nn true p fun (b o : Nat) =>
 (0 ≤ x_3 ∧ x_3 < (↑n : Int)) ∧
 ∃ (x_5 : Int),
 w'.drew.cell? (Addr.mk b (o + x_3.toNat * 2 + 1) none) = some (Value.int IntKind.i64 x_5) ∧
 CallsS Tryd.prog 21 #[Value.pointer x, Value.int IntKind.i64 x_4, Value.int IntKind.i64 x_5]
 w'.drew fun (e : Ending) (w'_1 : World) =>
 ∃ (x : Int),
 e = Ending.returned (Value.int IntKind.i64 x) ∧
 bsp (x != 0)
 (I [Value.int IntKind.i64 (IntKind.i64.wrap (x_3 + 1))] w'_1 ∧
 m [Value.int IntKind.i64 (IntKind.i64.wrap (x_3 + 1))] w'_1 <
 m [Value.int IntKind.i64 x_3] w')
 (nn true p fun (b o : Nat) =>
 (0 ≤ x_3 ∧ x_3 < (↑n : Int)) ∧
 ∃ (x : Int),
 w'_1.cell? (Addr.mk b (o + x_3.toNat * 2 + 1) none) = some (Value.int IntKind.i64 x) ∧
 ∃ (x_6 : Int),
 LookP Tryd.prog 61 (Value.map (some n_1))
 (Value.int IntKind.i64 (IntKind.i64.wrap (x.tdiv 1440))) false
 (Value.int IntKind.i64 x_6) w'_1.drew ∧
 nn true p fun (b o : Nat) =>
 (0 ≤ x_3 ∧ x_3 < (↑n : Int)) ∧
 ∃ (x_7 : Int),
 w'_1.drew.cell? (Addr.mk b (o + x_3.toNat * 2) none) =
 some (Value.int IntKind.i64 x_7) ∧
 ∃ (w1 : World),
 UpdP Tryd.prog 61 (Value.map (some n_1))
 (Value.int IntKind.i64 (IntKind.i64.wrap (x.tdiv 1440)))
 (Value.int IntKind.i64 (IntKind.i64.wrap (x_6 + x_7))) w'_1.drew w1 ∧
 ∃ (x_8 : Int),
 LookP Tryd.prog 61 (Value.map (some n_1))
 (Value.int IntKind.i64 (IntKind.i64.wrap (x.tdiv 1440))) false
 (Value.int IntKind.i64 x_8) w1 ∧
 bsp (decide (x_8 > lim)) (R (Ending.returned (Value.bool false)) w1)
 (I [Value.int IntKind.i64 (IntKind.i64.wrap (x_3 + 1))] w1 ∧
 m [Value.int IntKind.i64 (IntKind.i64.wrap (x_3 + 1))] w1 <
 m [Value.int IntKind.i64 x_3] w')))
 (R (Ending.returned (Value.bool true)) w'))
theorem vc_bounds (lim : Int) (p : Option Addr) (n : Nat) (c : Nat) (w : World) (R : Ending → World → Prop) (h : VC_bounds lim p n c w R) : Calls Tryd.prog 6 ([Value.int
    IntKind.i64 lim,
  Value.slice p n c] : List Value).toArray w R := by
  have e : execR { P := Tryd.prog, loops := [(6, [(8, Ck.int IntKind.i64)])], pur := pur1, tails := [(8, 11), (10, 11)], joins := [], boxes := [] } Tryd.f6.results.toList R (Tryd.f6.body.getD .skip) (initF [Value.int
    IntKind.i64 lim,
  Value.slice p n
    c] (Tryd.f6.ntmps - ([Value.int IntKind.i64 lim,
  Value.slice p n c] : List Value).length)) w = VC_bounds lim p n c w R := by kernel_rfl
  have hb : Tryd.f6.body = some (Tryd.f6.body.getD .skip) := by kernel_rfl
  exact calls_of_exec' (P := Tryd.prog) (fn := Tryd.f6) (c := Tryd.f6.body.getD .skip) (args := [Value.int IntKind.i64
    lim,
  Value.slice p n c]) (w := w) (R := R) pur1_ok Tryd.func6 hb e h

end Go.Proofs.YtcpjajjocmpkjaaDoor

/- The reference's Take, and the statement FeedruleQuotas on worlds: it returns true and leaves what was there as it was. The library's variable MaxLen holds a number. -/
namespace Go.Proofs.YtcpjajjocmpkjaaDoor
open Go.RowKit

def takeR (l d u n now : Int) : (Int × Int × Int) × Int :=
  if n < 0 ∨ 1099511627776 < n then ((l, d, u), 2) else if dateR d now = false then ((l, d, u), 13) else if 0 < l ∧ l < usedR d u now + n then ((l, d, u), 9) else
  if l = 0 then ((0, now / 1440, 0), 0) else ((l, now / 1440, usedR d u now + n), 0)
theorem tdivDay {now : Int} (h0 : 0 ≤ now) (h1 : now ≤ 105190559) : IntKind.i64.wrap (now.tdiv 1440) = now / 1440 := by rw [tdiv_day h0 h1]
set_option maxHeartbeats 400000 in
theorem refTake_any (l d u n now : Int) (w : World) (hl : 0 ≤ l ∧ l ≤ 1099511627776) (hu : 0 ≤ u ∧ u ≤ 1099511627776) : Calls Tryd.prog 20 #[.agg #[.int .i64 l, .int .i64 d, .int .i64 u], .int .i64 n, .int .i64 now] w fun e w' =>
    e = .returned (.tuple #[.agg #[.int .i64 (takeR l d u n now).1.1, .int .i64 (takeR l d u n now).1.2.1, .int .i64 (takeR l d u n now).1.2.2], .int .i64 (takeR l d u n now).2]) ∧ K0 w w' := by
  refine vc_refTake l d u n now w _ ?_
  intro n1 w1 hn1 n2 w2 hn2
  have hb1 := (hn2.kp (fun _ => False)).blk hn1.block (fun h => h)
  have hb2 := hn2.block
  have hk2 : K0 w w2 := (hn1.kp _).trans (hn2.kp _)
  have hge : w.heap.size ≤ n2 := Nat.le_trans (hn1.kp (fun _ => False)).size hn2.ge
  have fin : ∀ (wx : World) (a b c code : Int), K0 w2 wx → takeR l d u n now = ((a, b, c), code) → WrL wx n2 0 3 ∧ ∀ w3, PutB wx n2 0 [.int .i64 a, .int .i64 b, .int .i64 c] w3 → ∃ x y z : Int, AtL w3 n2 0 [.int .i64 x, .int .i64 y, .int .i64 z] ∧
      (Ending.returned (.tuple #[.agg #[.int .i64 x, .int .i64 y, .int .i64 z], .int .i64 code]) = .returned (.tuple #[.agg #[.int .i64 (takeR l d u n now).1.1, .int .i64 (takeR l d u n now).1.2.1, .int .i64 (takeR l d u n now).1.2.2], .int .i64 (takeR l d u n now).2]) ∧ K0 w w3) := fun wx a b c code hk ht => by
    have hb := hk.blk hb2 (fun h => h)
    refine ⟨WrL_block hb (by simp), fun w3 hp => ⟨a, b, c, AtL_block (hp.full hb rfl) rfl, by rw [ht], (hk2.trans hk).fresh hp.kp (fun i hi e => by omega)⟩⟩
  refine bsp_intro (fun h => ?_) (fun h => ?_)
  · have h : n < 0 ∨ 1099511627776 < n := by simp at h; omega
    exact ⟨l, d, u, AtL_block hb1 rfl, fin w2 l d u 2 (.refl _ _) (by simp only [takeR, h, if_true])⟩
  have h : ¬ (n < 0 ∨ 1099511627776 < n) := by simp at h; omega
  refine ⟨l, d, u, AtL_block hb1 rfl, ⟨(refDate_any l d u now w2).mono fun e w3 ⟨he, hk3⟩ => ⟨_, he, ?_⟩⟩⟩
  have hb13 := hk3.blk hb1 (fun h => h)
  refine bsp_intro (fun hd => ?_) (fun hd => ?_)
  · have hd : dateR d now = false := by simpa using hd
    exact ⟨l, d, u, AtL_block hb13 rfl, fin w3 l d u 13 hk3 (by simp only [takeR, h, hd, if_true, if_false])⟩
  have hd : dateR d now = true := by simpa using hd
  obtain ⟨b0, b1, _⟩ := dateR_bd hd
  have hub : 0 ≤ usedR d u now ∧ usedR d u now ≤ 1099511627776 := by unfold usedR; split <;> omega
  have hk3d : K0 w2 w3.drew := hk3.drew
  refine ⟨fun w' => K0 w2 w', hk3d, l, fun w' hk => cell_at (hk.blk hb1 (fun h => h)) rfl, l, d, u, gimp_intro fun _ w' hk => AtL_block (hk.blk hb1 (fun h => h)) rfl, l, gimp_intro fun _ w' hk => cell_at (hk.blk hb1 (fun h => h)) rfl, ?_⟩
  refine bsp_intro (fun hl0 => ⟨(refUsed_any l d u now w3.drew b0 b1).mono fun e w4 ⟨he, hk4⟩ => ⟨_, he, hk3d.trans hk4, ?_⟩⟩) (fun hl0 => ⟨hk3d, l, cell_at (blk_drew hb13) rfl, ?_⟩)
  · have hl0 : 0 < l := by simpa using hl0
    have hk4' := hk3d.trans hk4
    have hb14 := hk4'.blk hb1 (fun h => h)
    rw [wr64 (x := usedR d u now + n) (by omega) (by omega)]
    refine bsp_intro (fun hx => ⟨l, d, u, AtL_block hb14 rfl, ?_⟩) (fun hx => ⟨l, cell_at hb14 rfl, bsp_intro (fun h0 => ?_) (fun h0 => ?_)⟩)
    · have hx : l < usedR d u now + n := by simpa using hx
      exact fin w4 l d u 9 hk4' (by simp [takeR, h, hd, hl0, hx])
    · have h0 : l = 0 := by simpa using h0
      omega
    · have hx : ¬ l < usedR d u now + n := by simpa using hx
      refine ⟨fun w' => K0 w2 w', hk4'.drew, l, fun w' hk => cell_at (hk.blk hb1 (fun h => h)) rfl, l, d, u, fun w' hk => AtL_block (hk.blk hb1 (fun h => h)) rfl, ⟨(refUsed_any l d u now w4.drew b0 b1).mono fun e w5 ⟨he, hk5⟩ => ⟨_, he, hk4'.drew.trans hk5, ?_⟩⟩⟩
      rw [tdivDay b0 b1, wr64 (x := usedR d u now + n) (by omega) (by omega)]
      exact fin w5 _ _ _ 0 (hk4'.drew.trans hk5) (by simp [takeR, h, hd, hx, show ¬ l = 0 by omega])
  · have hl0 : l = 0 := by simp at hl0; omega
    refine bsp_intro (fun h0 => ?_) (fun h0 => absurd h0 (by simp [hl0]))
    rw [tdivDay b0 b1]
    exact fin w3.drew _ _ _ 0 hk3d (by simp [takeR, h, hd, hl0])

/-- A quota and that of the reference. -/
def RelQ (q : Qt) (l d u : Int) : Prop := q.lim = l ∧ 0 ≤ l ∧ l ≤ 1099511627776 ∧ 0 ≤ u ∧ u ≤ 1099511627776 ∧ 0 ≤ d ∧ (q.ch = true → d = q.day ∧ u = q.used) ∧ (q.ch = false → d = 0 ∧ u = 0 ∧ q.used = 0) ∧ (l = 0 → u = 0)
theorem RelQ.used {q : Qt} {l d u : Int} (h : RelQ q l d u) : 0 ≤ q.used ∧ q.used ≤ 1099511627776 := by
  obtain ⟨h1, h2, h3, h4, h5, h6, h7, h8, _⟩ := h
  cases hc : q.ch with
  | true => have := h7 hc; omega
  | false => have := h8 hc; omega
theorem RelQ.on {q : Qt} {l d u now : Int} (h : RelQ q l d u) : (dateR d now = false ∧ onS q now = (0, 0, 13)) ∨ (dateR d now = true ∧ onS q now = (now / 1440, usedR d u now, 0)) := by
  obtain ⟨h1, h2, h3, h4, h5, h6, h7, h8, _⟩ := h
  unfold onS
  by_cases hr : now < 0 ∨ 105190559 < now
  · rw [if_pos hr]
    refine .inl ⟨?_, rfl⟩
    cases hd : dateR d now with
    | false => rfl
    | true => have := dateR_bd hd; omega
  rw [if_neg hr]
  have hd : dateR d now = decide (d ≤ now / 1440) := by
    have a : decide (0 ≤ now) = true := by simp; omega
    have b : decide (now ≤ 105190559) = true := by simp; omega
    simp [dateR, a, b]
  rw [hd]
  cases hc : q.ch with
  | false =>
    obtain ⟨rfl, rfl, _⟩ := h8 hc
    right
    refine ⟨by simp; omega, ?_⟩
    simp only [true_or, if_true]
    unfold usedR
    split <;> rfl
  | true =>
    obtain ⟨rfl, rfl⟩ := h7 hc
    by_cases hlt : q.day < now / 1440
    · right
      refine ⟨by simp; omega, ?_⟩
      rw [if_pos (.inr hlt)]; unfold usedR; rw [if_pos hlt]
    · rw [if_neg (fun h => h.elim (fun h => by cases h) (fun h => hlt h))]
      by_cases hgt : now / 1440 < q.day
      · left
        refine ⟨by simp; omega, ?_⟩
        rw [if_pos hgt]
      · right
        refine ⟨by simp; omega, ?_⟩
        rw [if_neg hgt]; unfold usedR; rw [if_neg hlt]
theorem RelQ.left {q : Qt} {l d u now : Int} (h : RelQ q l d u) : leftS q now = leftR l d u now := by
  unfold leftS leftR
  rw [h.1]
  split
  · rfl
  · rcases h.on (now := now) with ⟨h1, h2⟩ | ⟨h1, h2⟩
    · rw [h1, h2]; rfl
    · rw [h1, h2]; rfl
theorem RelQ.take {q : Qt} {l d u n now : Int} (h : RelQ q l d u) : (takeS q n now).1 = (takeR l d u n now).2 ∧ RelQ (takeS q n now).2 (takeR l d u n now).1.1 (takeR l d u n now).1.2.1 (takeR l d u n now).1.2.2 := by
  have h0 := h
  obtain ⟨h1, h2, h3, h4, h5, h6, h7, h8, h9⟩ := h
  unfold takeS takeR
  by_cases hn : n < 0 ∨ 1099511627776 < n
  · rw [if_pos hn, if_pos hn]; exact ⟨rfl, h0⟩
  rw [if_neg hn, if_neg hn]
  rcases h0.on (now := now) with ⟨e1, e2⟩ | ⟨e1, e2⟩
  · rw [e1, e2]; exact ⟨rfl, h0⟩
  · have hb := dateR_bd e1
    have hub : 0 ≤ usedR d u now ∧ usedR d u now ≤ 1099511627776 := by unfold usedR; split <;> omega
    have hu0 : l = 0 → usedR d u now = 0 := fun e => by unfold usedR; have := h9 e; split <;> omega
    rw [e1, e2, h1]
    simp only [ne_eq, not_true_eq_false, if_false, Bool.true_eq_false]
    by_cases hl : l = 0
    · rw [if_pos hl, if_neg (by omega), if_pos hl]
      have := hu0 hl
      exact ⟨rfl, by simp; omega, by simp, by simp, by simp, by simp, by simp; omega, fun _ => ⟨rfl, by simp; omega⟩, fun h => (by cases h), fun _ => rfl⟩
    · rw [if_neg hl]
      by_cases hx : l < usedR d u now + n
      · rw [if_pos hx, if_pos ⟨by omega, hx⟩]; exact ⟨rfl, h0⟩
      · rw [if_neg hx, if_neg (fun h => hx h.2), if_neg hl]
        exact ⟨rfl, rfl, h2, h3, by simp; omega, by simp; omega, by simp; omega, fun _ => ⟨rfl, rfl⟩, fun h => (by cases h), fun h => absurd h hl⟩

/-- Charges that lie one behind the other. -/
def ChP (w : World) (p : Option Addr) (n : Nat) : Prop := ∀ k, k < n → ∃ (b o : Nat) (x y : Int), p = some ⟨b, o, none⟩ ∧ w.cell? ⟨b, o + k * 2, none⟩ = some (.int .i64 x) ∧ w.cell? ⟨b, o + k * 2 + 1, none⟩ = some (.int .i64 y)
theorem ChP.kp {M : Nat → Prop} {w w' : World} {p : Option Addr} {n : Nat} (h : ChP w p n) (hk : Kp M w w') (hm : ∀ b o, p = some ⟨b, o, none⟩ → ¬ M b) : ChP w' p n := fun k hk' => by
  obtain ⟨b, o, x, y, hp, h1, h2⟩ := h k hk'
  exact ⟨b, o, x, y, hp, hk.cell' h1 (hm b o hp), hk.cell' h2 (hm b o hp)⟩
def QRef (w : World) (b : Nat) (l d u : Int) : Prop := w.heap[b]? = some (.cells #[.int .i64 l, .int .i64 d, .int .i64 u] 52 (0, 0))

set_option maxHeartbeats 1000000 in
theorem quotas_any (lim : Int) (p : Option Addr) (n c : Nat) (at_ : Int) (w : World) (hG : GW w) (hch : ChP w p n) :
    Calls Tryd.prog 5 #[.int .i64 lim, .slice p n c, .int .i64 at_] w fun e w' => e = .returned (.bool true) ∧ K0 w w' := by
  refine vc_quotas lim p n c at_ w _ ?_
  refine ⟨(newQuota_any lim w).mono fun e w1 he => ?_⟩
  rcases he with ⟨hbad, he, rfl⟩ | ⟨hgood, qb, he, hq, hk1, hqb⟩
  · refine ⟨_, _, he, bsp_intro (fun _ => ?_) (fun h => ?_)⟩
    · exact ⟨(known_any w1 hG).mono fun e w2 ⟨he, hk⟩ => ⟨_, he, rfl, hk⟩⟩
    · exfalso; simp at h; omega
  refine ⟨_, _, he, bsp_intro (fun h => ?_) (fun h => ?_)⟩
  · exfalso; simp at h; omega
  have hlim : 0 ≤ lim ∧ lim ≤ 1099511627776 := by omega
  refine ⟨(known_any w1 (hG.kp hk1 (fun h => h))).mono fun e w2 ⟨he, hk2⟩ => ⟨_, he, bsp_intro (fun h => absurd h (by simp)) (fun _ => ?_)⟩⟩
  intro n1 w3 hn3
  refine ⟨WrL_block hn3.block (by simp), fun w4 hp4 => ?_⟩
  have hb4 : QRef w4 n1 lim 0 0 := hp4.full hn3.block rfl
  have hk24 : K0 w2 w4 := (hn3.kp _).fresh hp4.kp (fun i hi e => by have := hn3.ge; omega)
  have hq4 : QAt w4 qb ⟨lim, false, 0, 0⟩ := hk24.blk (hk2.blk hq (fun h => h)) (fun h => h)
  have hk4 : K0 w w4 := (hk1.trans hk2).trans hk24
  have hqn : qb < n1 := Nat.lt_of_lt_of_le (block_lt (hk2.blk hq (fun h => h))) hn3.ge
  refine count1 (min n 60) (by omega) (fun k w' => K0 w w' ∧ ∃ q l d u, QAt w' qb q ∧ QRef w' n1 l d u ∧ RelQ q l d u) ⟨hk4, _, lim, 0, 0, hq4, hb4, rfl, hlim.1, hlim.2, by decide, by decide, by decide, (fun h => by cases h), fun _ => ⟨rfl, rfl, rfl⟩, fun _ => rfl⟩ ?_
  intro I m k w5 hk ⟨hk5, q, l, d, u, hq5, hr5, hrel⟩ next
  refine bsp_intro (fun hlt => ?_) (fun _ => ⟨rfl, hk5⟩)
  have hlt' : k < min n 60 := by simp at hlt; omega
  have hlt : k < n := by omega
  obtain ⟨b, o, x, y, rfl, c1, c2⟩ := hch k hlt
  have e0 : (k : Int).toNat = k := by omega
  rw [e0]
  have hbb : b < w.heap.size := cell_lt c1
  have cx : ∀ wx, K0 w wx → wx.cell? ⟨b, o + k * 2, none⟩ = some (.int .i64 x) := fun wx hk => hk.cell' c1 (fun h => h)
  have cy : ∀ wx, K0 w wx → wx.cell? ⟨b, o + k * 2 + 1, none⟩ = some (.int .i64 y) := fun wx hk => hk.cell' c2 (fun h => h)
  have hin : 0 ≤ (k : Int) ∧ (k : Int) < (n : Int) := by omega
  obtain ⟨htk, hrel'⟩ := hrel.take (n := x) (now := y)
  generalize htr : takeR l d u x y = tr at htk hrel'
  obtain ⟨⟨l', d', u'⟩, code⟩ := tr
  have hl2 := hrel.2.1
  have hl3 := hrel.2.2.1
  have hu2 := hrel.2.2.2.1
  have hu3 := hrel.2.2.2.2.1
  refine ⟨fun vs wx => ∃ n2, vs = [.pointer (some ⟨n2, 0, none⟩), .int .i64 code] ∧ w5.heap.size ≤ n2 ∧ QRef wx n2 l' d' u' ∧ K0 w5 wx, ?_, ?_⟩
  · refine ⟨fun wx => K0 w5.drew wx, .refl _ _, l, d, u, fun wx hkx => AtL_block (hkx.blk (blk_drew hr5) (fun h => h)) rfl, hin, x, fun wx hkx => cx wx (hk5.trans hkx.of_drew), hin, y, fun wx hkx => cy wx (hk5.trans hkx.of_drew), ⟨(refTake_any l d u x y w5.drew ⟨hl2, hl3⟩ ⟨hu2, hu3⟩).mono fun e w6 ⟨he, hk6⟩ => ?_⟩, fun n2 w6 hn6 => ⟨hn6.kp _, ⟨(refTake_any l d u x y w6 ⟨hl2, hl3⟩ ⟨hu2, hu3⟩).mono fun e w7 ⟨he, hk7⟩ => ?_⟩⟩⟩
    · rw [htr] at he
      refine ⟨_, _, _, _, he, fun n2 w7 hn7 => ⟨hk6.trans (hn7.kp _), WrL_block hn7.block (by simp), fun w8 hp8 => ⟨n2, rfl, ?_, hp8.full hn7.block rfl, ?_⟩⟩⟩
      · have := hk6.of_drew.size; have := hn7.ge; omega
      · have := hk6.of_drew.size; have := hn7.ge
        exact (hk6.of_drew.trans (hn7.kp _)).fresh hp8.kp (fun i hi e => by omega)
    · rw [htr] at he
      have hb7 := hk7.blk hn6.block (fun h => h)
      have hge : w5.heap.size ≤ n2 := hn6.ge
      refine ⟨_, _, _, _, he, WrL_block hb7 (by simp), fun w8 hp8 => ⟨n2, rfl, hge, hp8.full hb7 rfl, ?_⟩⟩
      exact ((hn6.kp (fun _ => False)).of_drew.trans hk7).fresh hp8.kp (fun i hi e => by omega)
  · rintro x4 x5 w6 ⟨n2, hv, hn2, hr6, hk6⟩
    simp only [List.cons.injEq, Value.pointer.injEq, Value.int.injEq, true_and, and_true] at hv
    obtain ⟨rfl, rfl⟩ := hv
    have hq6 : QAt w6.drew qb q := blk_drew (hk6.blk hq5 (fun h => h))
    have hr6n : QRef w6.drew n1 l d u := blk_drew (hk6.blk hr5 (fun h => h))
    have hqlt : qb < w5.heap.size := block_lt hq5
    have h1lt : n1 < w5.heap.size := block_lt hr5
    have hwq : w.heap.size ≤ qb := hqb
    refine ⟨fun wx => Kp (· = qb) w6.drew wx, .refl _ _, hin, x, fun wx hkx => ?_, hin, y, fun wx hkx => ?_, ⟨(take_any qb x y q w6.drew hq6 hrel.used).mono fun e w7 ⟨he, hq7, hk7⟩ => ⟨_, he, hk7, ?_⟩⟩⟩
    · exact hkx.cell' (cx _ (hk5.trans hk6).drew) (fun e => by omega)
    · exact hkx.cell' (cy _ (hk5.trans hk6).drew) (fun e => by omega)
    rw [htk]
    have cond : (!(x5 != x5)) = true := by simp
    have hk57 : Kp (· = qb) w5 w7 := (hk6.drew.mono fun _ _ h => h.elim).trans hk7
    have hlu : 0 ≤ l' ∧ l' ≤ 1099511627776 := ⟨hrel'.2.1, hrel'.2.2.1⟩
    have huu : 0 ≤ u' ∧ u' ≤ 1099511627776 := ⟨hrel'.2.2.2.1, hrel'.2.2.2.2.1⟩
    have hr7 : ∀ wx, Kp (· = qb) w6.drew wx → QRef wx n2 l' d' u' := fun wx hkx => hkx.blk (blk_drew hr6) (fun e => by omega)
    have leftOk : ∀ (wx : World) (now : Int), Kp (· = qb) w6.drew wx → QAt wx qb (takeS q x y).2 → Calls Tryd.prog 22 #[.pointer (some ⟨qb, 0, none⟩), .int .i64 now] wx fun e w' => e = .returned (.int .i64 (leftR l' d' u' now)) ∧ Kp (· = qb) w6.drew w' ∧ QAt w' qb (takeS q x y).2 := fun wx now hkx hqx =>
      (left_any qb now _ wx hqx hrel'.used (by rw [hrel'.1]; exact hlu)).mono fun e w' ⟨he, hw⟩ => by
        rw [hrel'.left] at he
        rcases hw with rfl | rfl
        · exact ⟨he, hkx, hqx⟩
        · exact ⟨he, hkx.drew, hqx⟩
    refine ⟨gimp_intro fun _ => hin, y, gimp_intro fun _ wx hkx => hkx.cell' (cy _ (hk5.trans hk6).drew) (fun e => by omega), l', d', u', gimp_intro fun _ wx hkx => AtL_block (hr7 wx hkx) rfl, gimp_intro fun _ => hin, y, gimp_intro fun _ wx hkx => hkx.cell' (cy _ (hk5.trans hk6).drew) (fun e => by omega), bsp_intro (fun _ => ?_) (fun h => absurd (cond.symm.trans h) (by decide))⟩
    refine ⟨(leftOk w7 y hk7 hq7).mono fun e w8 ⟨he, hk8, hq8⟩ => ⟨_, he, hk8, ?_⟩⟩
    refine ⟨(refLeft_any l' d' u' y w8 hlu huu).mono fun e w9 ⟨he, hk9⟩ => ⟨_, he, hk8.trans (hk9.mono fun _ _ h => h.elim), ?_⟩⟩
    have hk9' : Kp (· = qb) w6.drew w9 := hk8.trans (hk9.mono fun _ _ h => h.elim)
    have cond2 : (!(false || (leftR l' d' u' y) != (leftR l' d' u' y))) = true := by simp
    refine ⟨l', d', u', gimp_intro fun _ wx hkx => AtL_block (hr7 wx hkx) rfl, bsp_intro (fun _ => ?_) (fun h => absurd (cond2.symm.trans h) (by decide))⟩
    refine ⟨(leftOk w9 at_ hk9' (hk9.blk hq8 (fun h => h))).mono fun e wa ⟨he, hka, hqa⟩ => ⟨_, he, hka, ?_⟩⟩
    refine ⟨(refLeft_any l' d' u' at_ wa hlu huu).mono fun e wb ⟨he, hkb⟩ => ⟨_, he, bsp_intro (fun h => absurd h (by simp)) (fun _ => ?_)⟩⟩
    have hkb' : Kp (· = qb) w6.drew wb := hka.trans (hkb.mono fun _ _ h => h.elim)
    have hrn1 : QRef wb n1 l d u := hkb'.blk hr6n (fun e => by omega)
    refine ⟨l', d', u', AtL_block (hr7 wb hkb') rfl, WrL_block hrn1 (by simp), fun wc hpc => ?_⟩
    refine next hlt' wc ⟨?_, (takeS q x y).2, l', d', u', hpc.kp.blk (hkb.blk hqa (fun h => h)) (fun e => by omega), hpc.full hrn1 rfl, hrel'⟩
    have : w.heap.size ≤ n1 := Nat.le_trans (Nat.le_of_lt (Nat.lt_of_le_of_lt hqb hqn)) (Nat.le_refl _)
    exact ((hk5.trans hk6.drew).fresh hkb' (fun i hi e => by omega)).fresh hpc.kp (fun i hi e => by omega)

end Go.Proofs.YtcpjajjocmpkjaaDoor

/- The contracts of the law's own conversions To and item. Slices of strings lie in the memory. -/
namespace Go.Proofs.YtcpjajjocmpkjaaDoor
open Go.RowKit

/-- Strings that are copied by append to an empty slice of a new block of no cells. -/
theorem app0 {w w1 : World} {n0 sz : Nat} {T : TypeId} {q : Option Addr} {zs : List ByteArray} (hn : NewB w (.cells #[] T) n0 w1) (hz : StrP w1 q zs) (h1 : zs.length ≤ 1073741824) (h2 : zs.length * sz ≤ 140737488355328) {k : Nat} (hk : k = zs.length) {X : Option Addr → Nat → World → Prop}
    (h : ∀ (p' : Option Addr) (c' : Nat) (w' : World), w'.ownsRow n0 T 1 (.slice p' (0 + k) c') (0 + k) (zs.map Value.string) → K0 w w' → X p' c' w') :
    ∃ (base : Nat) (xs news : List Value), w1.ownsRow base T 1 (.slice (some (Addr.mk n0 0 none)) 0 0) 0 xs ∧ news.length = k * 1 ∧ SrcP w1 q news ∧ 0 + k ≤ 9223372036854775807 ∧ (0 + k) * sz ≤ 140737488355328 ∧ base ≤ w1.heap.size ∧
      ∀ (p' : Option Addr) (c' : Nat) (w' : World), w'.ownsRow base T 1 (.slice p' (0 + k) c') (0 + k) (xs ++ news) → w1.grownBy w' (Value.slice (some (Addr.mk n0 0 none)) 0 0).ownBlock → X p' c' w' := by
  subst hk
  refine ⟨n0, [], zs.map Value.string, ⟨rfl, .inr ⟨n0, 0, #[], rfl, Nat.le_refl _, hn.block, Nat.le_refl _, by decide, rfl, rfl⟩⟩, by simp, ⟨fun j u hj => ?_, fun u hu => ?_⟩, by omega, by rw [Nat.zero_add]; exact h2, by have := hn.size; omega, fun p' c' w' ho hg => h p' c' w' ho ?_⟩
  · rw [List.getElem?_map] at hj
    cases hz' : zs[j]? with
    | none => rw [hz'] at hj; simp at hj
    | some z =>
      rw [hz'] at hj
      simp at hj
      subst hj
      exact hz j z hz'
  · rw [List.mem_map] at hu
    obtain ⟨z, _, rfl⟩ := hu
    rfl
  · refine (hn.kp _).grown hg (fun k hk => .inl ?_)
    simp only [Value.ownBlock, Option.some.injEq] at hk
    have := hn.ge
    omega
theorem own_base {w : World} {base base' : Nat} {e : TypeId} {size : Nat} {v : Value} {n : Nat} {xs : List Value} (h : w.ownsRow base e size v n xs) (hb : base' ≤ base) : w.ownsRow base' e size v n xs :=
  ⟨h.1, h.2.imp id fun ⟨g, cap, cur, a1, a2, a3⟩ => ⟨g, cap, cur, a1, Nat.le_trans hb a2, a3⟩⟩

set_option maxHeartbeats 1000000 in
theorem to_any (nb ps : ByteArray) (mb dl : Int) (p : Option Addr) (c : Nat) (ds : List ByteArray) (w : World) (hds : StrP w p ds) :
    Calls Tryd.prog 10 #[.agg #[.string nb, .string ps, .int .i64 mb, .int .i64 dl, .slice p ds.length c]] w fun e w' => ∃ (p1 p2 : Option Addr) (c1 c2 : Nat),
      e = .returned (.tuple #[.agg #[.string (nb.extract 0 (min nb.size 40)), .string (ps.extract 0 (min ps.size 300)), .int .i64 mb, .int .i64 dl, .slice p1 (ds.take 10).length c1], .agg #[.string (nb.extract 0 (min nb.size 40)), .string (ps.extract 0 (min ps.size 300)), .int .i64 mb, .int .i64 dl, .slice p2 (ds.take 10).length c2]]) ∧
      w'.ownsRow w.heap.size 9 1 (.slice p1 (ds.take 10).length c1) (ds.take 10).length ((ds.take 10).map Value.string) ∧ w'.ownsRow w.heap.size 9 1 (.slice p2 (ds.take 10).length c2) (ds.take 10).length ((ds.take 10).map Value.string) ∧
      (∀ k, (Value.slice p1 (ds.take 10).length c1).ownBlock = some k → (Value.slice p2 (ds.take 10).length c2).ownBlock ≠ some k) ∧ K0 w w' := by
  refine vc_lto nb ps mb dl p ds.length c w _ ?_
  refine ⟨fun vs w' => ∃ (n n2 : Nat) (p1 p2 : Option Addr) (c1 c2 : Nat), vs = [.pointer (some ⟨n, 0, none⟩), .pointer (some ⟨n2, 0, none⟩)] ∧
      w'.heap[n]? = some (.cells #[.string (nb.extract 0 (min nb.size 40)), .string (ps.extract 0 (min ps.size 300)), .int .i64 mb, .int .i64 dl, .slice p1 (ds.take 10).length c1] 28 (0, 0)) ∧
      w'.heap[n2]? = some (.cells #[.string (nb.extract 0 (min nb.size 40)), .string (ps.extract 0 (min ps.size 300)), .int .i64 mb, .int .i64 dl, .slice p2 (ds.take 10).length c2] 24 (0, 0)) ∧
      w'.ownsRow w.heap.size 9 1 (.slice p1 (ds.take 10).length c1) (ds.take 10).length ((ds.take 10).map Value.string) ∧ w'.ownsRow w.heap.size 9 1 (.slice p2 (ds.take 10).length c2) (ds.take 10).length ((ds.take 10).map Value.string) ∧
      (∀ k, (Value.slice p1 (ds.take 10).length c1).ownBlock = some k → (Value.slice p2 (ds.take 10).length c2).ownBlock ≠ some k) ∧ K0 w w', ?_, ?_⟩
  rotate_left
  · rintro x x1 w' ⟨n, n2, p1, p2, c1, c2, hv, hb, hb2, ho, ho2, hne, hk⟩
    simp only [List.cons.injEq, Value.pointer.injEq, and_true] at hv
    obtain ⟨rfl, rfl⟩ := hv
    exact ⟨_, _, _, _, _, _, _, AtL_block hb rfl, _, _, _, _, _, _, _, AtL_block hb2 rfl, p1, p2, c1, c2, rfl, ho, ho2, hne, hk⟩
  intro n1 w1 hn1 n w2 hn n2 w3 hn2
  have l1 : w.heap.size ≤ n1 := hn1.ge
  have l2 : n1 < n := by have := hn1.size; have := hn.ge; omega
  have l3 : n < n2 := by have := hn.size; have := hn2.ge; omega
  have b1 : w3.drew.heap[n1]? = some (.cells #[.string nb, .string ps, .int .i64 mb, .int .i64 dl, .slice p ds.length c] 24 (0, 0)) := (hn2.kp (fun _ => False)).blk ((hn.kp (fun _ => False)).blk hn1.block (fun h => h)) (fun h => h)
  have b2 := (hn2.kp (fun _ => False)).blk hn.block (fun h => h)
  have b3 := hn2.block
  have k3 : K0 w w3.drew := (((hn1.kp (fun _ => False)).trans (hn.kp _)).trans (hn2.kp _)).drew
  have e40 : (if (40 : Int) < (nb.size : Int) then (40 : Int) else (nb.size : Int)).toNat = min nb.size 40 := by split <;> omega
  have e300 : (if (300 : Int) < (ps.size : Int) then (300 : Int) else (ps.size : Int)).toNat = min ps.size 300 := by split <;> omega
  refine ⟨fun w' => w'.heap[n1]? = some (.cells #[.string nb, .string ps, .int .i64 mb, .int .i64 dl, .slice p ds.length c] 24 (0, 0)), b1, nb, fun w' h => cell_at h rfl, nb, fun w' h => cell_at h rfl, by split <;> omega, ps, fun w' h => cell_at h rfl, ps, fun w' h => cell_at h rfl, by split <;> omega, mb, fun w' h => cell_at h rfl, dl, fun w' h => cell_at h rfl, fun n3 w4 hn4 => ?_⟩
  have b14 := (hn4.kp (fun _ => False)).blk b1 (fun h => h)
  refine ⟨b14, WrL_block hn4.block (by simp), fun w5 hp5 => ?_⟩
  rw [e40, e300] at hp5
  have l4 : n2 < n3 := by have := hn2.size; have : w3.drew.heap.size = w3.heap.size := rfl; have := hn4.ge; omega
  have b45 : w5.heap[n3]? = some (.cells #[.string (nb.extract 0 (min nb.size 40)), .string (ps.extract 0 (min ps.size 300)), .int .i64 mb, .int .i64 dl, .slice none 0 0] 24 (0, 0)) := hp5.full hn4.block rfl
  have b15 := hp5.kp.blk b14 (fun e => by omega)
  have b25 := hp5.kp.blk ((hn4.kp (fun _ => False)).blk (blk_drew b2) (fun h => h)) (fun e => by omega)
  have b35 := hp5.kp.blk ((hn4.kp (fun _ => False)).blk (blk_drew b3) (fun h => h)) (fun e => by omega)
  have k5 : K0 w w5 := (k3.trans (hn4.kp _)).fresh hp5.kp (fun i hi e => by omega)
  have s5 : w5.heap.size = n3 + 1 := by have := hp5.size; have := hn4.size; omega
  clear hn1 hn hn2 hn4 hp5 b14 b1 b2 b3
  refine count1 (min ds.length 10) (by omega) (fun k w' => ∃ p' c', w'.heap[n3]? = some (.cells #[.string (nb.extract 0 (min nb.size 40)), .string (ps.extract 0 (min ps.size 300)), .int .i64 mb, .int .i64 dl, .slice p' k c'] 24 (0, 0)) ∧ w'.ownsRow w5.heap.size 9 1 (.slice p' k c') k ((ds.take k).map Value.string) ∧ Kp (· = n3) w5 w') ⟨none, 0, b45, World.ownsRow_nil _ _ _ _, .refl _ _⟩ ?_
  rintro I m k w6 hk ⟨p', c', b46, ho, hk6⟩ next
  have b16 := hk6.blk b15 (fun e => by omega)
  have k6 : K0 w w6 := k5.fresh hk6 (fun i hi e => by omega)
  refine ⟨p, ds.length, c, cell_at b16 rfl, bsp_intro (fun hlt => ?_) (fun hge => ?_)⟩
  · have hlt' : k < min ds.length 10 := by simp at hlt; omega
    obtain ⟨z, hz⟩ : ∃ z, ds[k]? = some z := ⟨_, List.getElem?_eq_getElem (by omega)⟩
    have htk : ds.take (k + 1) = ds.take k ++ [z] := by rw [List.take_add_one, hz]; rfl
    obtain ⟨bz, oz, rfl, hcz⟩ := hds k z hz
    have e0 : (k : Int).toNat = k := by omega
    refine ⟨fun w' => K0 w6.drew w', .refl _ _, p', k, c', fun w' h => cell_at (h.blk (blk_drew b46) (fun h => h)) rfl, some ⟨bz, oz, none⟩, ds.length, c, fun w' h => cell_at (h.blk (blk_drew b16) (fun h => h)) rfl, ?_⟩
    show (0 ≤ (k : Int) ∧ (k : Int) < (ds.length : Int)) ∧ _
    rw [e0]
    refine ⟨⟨by omega, by omega⟩, z, fun w' h => (k6.drew.trans h).cell' hcz (fun h => h), fun n6 w7 hn7 => ⟨hn7.kp _, ?_⟩⟩
    have ho6 : w6.drew.ownsRow w5.heap.size 9 1 (.slice p' k c') k ((ds.take k).map Value.string) := ho
    refine app1 ho6 hk6.size hn7 rfl (fun u hu => by simp at hu; subst hu; rfl) (by omega) (by omega) (fun p2 c2 w8 ho8 hk8 _ => ?_)
    have b48 := hk8.blk (blk_drew b46) (fun e => by have := own_ge ho6 e; omega)
    refine ⟨cell_wr b48 (by simp), fun w9 hp9 => next hlt' w9 ⟨p2, c2, hp9.block b48, ?_, ?_⟩⟩
    · rw [htk, List.map_append]
      exact owns_kp ho8 hp9.kp (fun k hk e => by have := own_ge ho8 hk; omega)
    · exact ((hk6.drew.fresh hk8 (fun i hi e => by have := own_ge ho6 e; omega)).trans hp9.kp)
  · have hkk : k = min ds.length 10 := by simp at hge; omega
    have htk : ds.take k = ds.take 10 := by
      rw [hkk]
      rcases Nat.le_total ds.length 10 with h | h
      · rw [Nat.min_eq_left h, List.take_length, List.take_of_length_le h]
      · rw [Nat.min_eq_right h]
    have hkl : k = (ds.take 10).length := by rw [List.length_take]; omega
    rw [htk] at ho
    subst hkl
    clear hkk htk
    have b26 := hk6.blk b25 (fun e => by omega)
    have b36 := hk6.blk b35 (fun e => by omega)
    refine ⟨fun w' => w'.heap[n3]? = some (.cells #[.string (nb.extract 0 (min nb.size 40)), .string (ps.extract 0 (min ps.size 300)), .int .i64 mb, .int .i64 dl, .slice p' (ds.take 10).length c'] 24 (0, 0)), blk_drew b46, _, fun w' h => cell_at h rfl, _, fun w' h => cell_at h rfl, mb, fun w' h => cell_at h rfl, dl, fun w' h => cell_at h rfl, p', (ds.take 10).length, c', fun w' h => cell_at h rfl, _, _, mb, dl, p', (ds.take 10).length, c', fun w' h => AtL_block h rfl, fun n7 w7 hn7 => ?_⟩
    have k7 := hn7.kp (fun _ => False)
    have b47 := k7.blk (blk_drew b46) (fun h => h)
    have hlt6 := block_lt b46
    have hz6 : w6.drew.heap.size = w6.heap.size := rfl
    have g7 := hn7.ge
    obtain ⟨_, _, hstr, _, _⟩ := own_strP ho
    have hlen : (ds.take 10).length ≤ 10 := by rw [List.length_take]; omega
    refine ⟨b47, app0 hn7 ((show StrP w6.drew p' (ds.take 10) from hstr).kp k7 (fun _ _ _ h => h)) (by omega) (by omega) rfl (fun q c7 w8 ho8 hk8 => ?_)⟩
    simp only [Nat.zero_add] at ho8 ⊢
    have b48 := hk8.blk (blk_drew b46) (fun h => h)
    have b28 := hk8.blk (blk_drew b26) (fun h => h)
    have b38 := hk8.blk (blk_drew b36) (fun h => h)
    refine ⟨b48, WrL_block b28 (by simp), fun w9 hp9 => ?_⟩
    have b49 := hp9.kp.blk b48 (fun e => by omega)
    have b29 := hp9.full b28 rfl
    have b39 := hp9.kp.blk b38 (fun e => by omega)
    refine ⟨b49, WrL_block b39 (by simp), fun wa hpa => ⟨n, n2, q, p', c7, c', rfl, hpa.kp.blk b29 (fun e => by omega), hpa.full b39 rfl, ?_, ?_, ?_, ?_⟩⟩
    · refine own_base (owns_kp (owns_kp ho8 hp9.kp (fun k hk e => ?_)) hpa.kp (fun k hk e => ?_)) (by have := k6.size; omega)
      · have := own_ge ho8 hk; omega
      · have := own_ge ho8 hk; omega
    · refine own_base (owns_kp (owns_kp (owns_kp (show w6.drew.ownsRow _ _ _ _ _ _ from ho) hk8 (fun _ _ h => h)) hp9.kp (fun k hk e => ?_)) hpa.kp (fun k hk e => ?_)) (by have := k5.size; omega)
      · have := own_ge ho hk; omega
      · have := own_ge ho hk; omega
    · intro k hk1 hk2
      have := own_ge ho8 hk1
      have := own_lt ho hk2
      omega
    · exact ((k6.drew.trans hk8).fresh hp9.kp (fun i hi e => by omega)).fresh hpa.kp (fun i hi e => by omega)

def It.cut (x : It) : It := { x with gs := x.gs.take 20 }
set_option maxHeartbeats 1000000 in
theorem item_any (x : It) (p : Option Addr) (c : Nat) (w : World) (hg : StrP w p x.gs) (hc : x.gs.length ≤ c) :
    Calls Tryd.prog 14 #[.agg (x.cells p c)] w fun e w' => ∃ (p1 p2 : Option Addr) (c1 c2 : Nat),
      e = .returned (.tuple #[.agg (x.cut.cells p1 c1), .agg (x.cut.cells p2 c2)]) ∧
      w'.ownsRow w.heap.size 9 1 (.slice p1 x.cut.gs.length c1) x.cut.gs.length (x.cut.gs.map Value.string) ∧ w'.ownsRow w.heap.size 9 1 (.slice p2 x.cut.gs.length c2) x.cut.gs.length (x.cut.gs.map Value.string) ∧ K0 w w' := by
  refine vc_litem (x.cells p c) w _ ?_
  refine ⟨fun vs w' => ∃ (n n2 : Nat) (p1 p2 : Option Addr) (c1 c2 : Nat), vs = [.pointer (some ⟨n, 0, none⟩), .pointer (some ⟨n2, 0, none⟩)] ∧
      w'.heap[n]? = some (.cells (x.cut.cells p1 c1) 39 (0, 0)) ∧ w'.heap[n2]? = some (.cells (x.cut.cells p2 c2) 27 (0, 0)) ∧
      w'.ownsRow w.heap.size 9 1 (.slice p1 x.cut.gs.length c1) x.cut.gs.length (x.cut.gs.map Value.string) ∧ w'.ownsRow w.heap.size 9 1 (.slice p2 x.cut.gs.length c2) x.cut.gs.length (x.cut.gs.map Value.string) ∧ K0 w w', ?_, ?_⟩
  rotate_left
  · rintro y y1 w' ⟨n, n2, p1, p2, c1, c2, hv, hb, hb2, ho, ho2, hk⟩
    simp only [List.cons.injEq, Value.pointer.injEq, and_true] at hv
    obtain ⟨rfl, rfl⟩ := hv
    exact ⟨x.id, p1, x.cut.gs.length, c1, x.d, x.by_, x.ct, x.fr, x.ar, AtL_block hb rfl, x.id, p2, x.cut.gs.length, c2, x.d, x.by_, x.ct, x.fr, x.ar, AtL_block hb2 rfl, p1, p2, c1, c2, rfl, ho, ho2, hk⟩
  intro n w1 hn n1 w2 hn1 n2 w3 hn2 n3 w4 hn3
  have l0 : w.heap.size ≤ n := hn.ge
  have l1 : n < n1 := by have := hn.size; have := hn1.ge; omega
  have l2 : n1 < n2 := by have := hn1.size; have := hn2.ge; omega
  have l3 : n2 < n3 := by have := hn2.size; have := hn3.ge; omega
  have k3 : K0 w w3 := ((hn.kp (fun _ => False)).trans (hn1.kp _)).trans (hn2.kp _)
  have q1 := (hn1.kp (fun _ => False)).trans (hn2.kp (fun _ => False))
  have q2 := hn2.kp (fun _ => False)
  have q3 := hn3.kp (fun _ => False)
  have b0 := q1.blk hn.block (fun h => h)
  have b1 := q2.blk hn1.block (fun h => h)
  have b2 := hn2.block
  have k4 : K0 w w4 := k3.trans q3
  have b04 := q3.blk b0 (fun h => h)
  have e20 : (if (20 : Int) < (x.gs.length : Int) then (20 : Int) else (x.gs.length : Int)).toNat = (x.gs.take 20).length := by rw [List.length_take]; split <;> omega
  have hl20 : (x.gs.take 20).length ≤ 20 := by rw [List.length_take]; omega
  refine ⟨p, x.gs.length, c, cell_at b04 rfl, p, x.gs.length, c, cell_at b04 rfl, by split <;> omega, ?_⟩
  rw [e20]
  have hg4 : StrP w4 p (x.gs.take 20) := fun j z hj => by
    rw [List.getElem?_take] at hj
    split at hj
    · exact (hg.kp k4 (fun _ _ _ h => h)) j z hj
    · cases hj
  refine app0 hn3 hg4 (by omega) (by omega) rfl (fun p5 c5 w5 ho5 hk5 => ?_)
  rw [Nat.zero_add] at ho5
  have b05 := hk5.blk b0 (fun h => h)
  refine ⟨cell_wr b05 (by rw [It.size]; decide), fun w6 hp6 => ?_⟩
  rw [Nat.zero_add (List.take 20 x.gs).length] at hp6
  have b06 : w6.heap[n]? = some (.cells (x.cut.cells p5 c5) 27 (0, 0)) := hp6.block b05
  have b16 := hp6.kp.blk (hk5.blk b1 (fun h => h)) (fun e => by omega)
  have b26 := hp6.kp.blk (hk5.blk b2 (fun h => h)) (fun e => by omega)
  have ho6 := owns_kp ho5 hp6.kp (fun k hk e => by have := own_ge ho5 hk; omega)
  have k6 : K0 w w6 := (k3.trans hk5).fresh hp6.kp (fun i hi e => by omega)
  obtain ⟨_, _, hs6, _, _⟩ := own_strP ho6
  have g6 : n2 < w6.heap.size := block_lt b26
  refine ⟨fun w' => w'.heap[n]? = some (.cells (x.cut.cells p5 c5) 27 (0, 0)), blk_drew b06, x.id, fun w' h => AtL_block h rfl, p5, (x.gs.take 20).length, c5, fun w' h => cell_at h rfl, x.d, fun w' h => cell_at h rfl, x.by_, fun w' h => cell_at h rfl, x.ct, fun w' h => cell_at h rfl, x.fr, fun w' h => cell_at h rfl, x.ar, fun w' h => cell_at h rfl,
    x.id, p5, (x.gs.take 20).length, c5, x.d, x.by_, x.ct, x.fr, x.ar, fun w' h => AtL_block h rfl, fun n7 w7 hn7 => ?_⟩
  have k7 := hn7.kp (fun _ => False)
  have g7 : w6.heap.size ≤ n7 := hn7.ge
  refine ⟨k7.blk (blk_drew b06) (fun h => h), app0 hn7 ((show StrP w6.drew p5 (x.gs.take 20) from hs6).kp k7 (fun _ _ _ h => h)) (by omega) (by omega) rfl (fun p8 c8 w8 ho8 hk8 => ?_)⟩
  rw [Nat.zero_add] at ho8
  have b08 := hk8.blk (blk_drew b06) (fun h => h)
  have b18 := hk8.blk (blk_drew b16) (fun h => h)
  have b28 := hk8.blk (blk_drew b26) (fun h => h)
  refine ⟨b08, WrL_block b18 (by simp), fun w9 hp9 => ?_⟩
  rw [Nat.zero_add (List.take 20 x.gs).length] at hp9
  have b09 := hp9.kp.blk b08 (fun e => by omega)
  have b29 := hp9.kp.blk b28 (fun e => by omega)
  have b19 : w9.heap[n1]? = some (.cells (x.cut.cells p8 c8) 39 (0, 0)) := hp9.full b18 rfl
  refine ⟨b09, WrL_block b29 (by simp), fun wa hpa => ⟨n1, n2, p8, p5, c8, c5, rfl, hpa.kp.blk b19 (fun e => by omega), hpa.full b29 rfl, ?_, ?_, ?_⟩⟩
  · refine own_base (owns_kp (owns_kp ho8 hp9.kp (fun k hk e => ?_)) hpa.kp (fun k hk e => ?_)) (by have := k6.size; omega)
    · have := own_ge ho8 hk; omega
    · have := own_ge ho8 hk; omega
  · refine own_base (owns_kp (owns_kp (owns_kp (show w6.drew.ownsRow _ _ _ _ _ _ from ho6) hk8 (fun _ _ h => h)) hp9.kp (fun k hk e => ?_)) hpa.kp (fun k hk e => ?_)) (by omega)
    · have := own_ge ho6 hk; omega
    · have := own_ge ho6 hk; omega
  · exact ((k6.drew.trans hk8).fresh hp9.kp (fun i hi e => by omega)).fresh hpa.kp (fun i hi e => by omega)

end Go.Proofs.YtcpjajjocmpkjaaDoor
