/- The formulas of functions by the symbolic evaluator, and that each gives the call's contract. Written by a program (gen.py). No condition. -/
import Derived.Test.YtcpjajjocmpkjaaDoorProg
import Derived.Test.YtcpjajjocmpkjaaDoorSound
import Derived.Test.YtcpjajjocmpkjaaDoorPur1
import Derived.KernelRfl
namespace Go.Proofs.YtcpjajjocmpkjaaDoor
set_option maxRecDepth 100000
set_option linter.unusedVariables false

def VC_lto (nb : ByteArray) (ps : ByteArray) (mb : Int) (dl : Int) (p : Option Addr) (n : Nat) (c : Nat) (w : World) (R : Ending → World → Prop) : Prop :=
 ∃ (J : List Value → World → Prop),
 (∀ (n_1 : Nat) (w1 : World),
 NewB w
 (Obj.cells
 #[Value.string nb, Value.string ps, Value.int IntKind.i64 mb, Value.int IntKind.i64 dl, Value.slice p n c] 24)
 n_1 w1 →
 ∀ (n : Nat) (w1_1 : World),
 NewB w1
 (Obj.cells
 #[Value.string (ByteArray.mk #[]), Value.string (ByteArray.mk #[]), Value.int IntKind.i64 0,
 Value.int IntKind.i64 0, Value.slice none 0 0]
 28)
 n w1_1 →
 ∀ (n_2 : Nat) (w1 : World),
 NewB w1_1
 (Obj.cells
 #[Value.string (ByteArray.mk #[]), Value.string (ByteArray.mk #[]), Value.int IntKind.i64 0,
 Value.int IntKind.i64 0, Value.slice none 0 0]
 24)
 n_2 w1 →
 ∃ (S : World → Prop),
 S w1.drew ∧
 ∃ (x : ByteArray),
 (∀ (w' : World), S w' → w'.cell? (Addr.mk n_1 0 none) = some (Value.string x)) ∧
 ∃ (x_1 : ByteArray),
 (∀ (w' : World), S w' → w'.cell? (Addr.mk n_1 0 none) = some (Value.string x_1)) ∧
 ((0 ≤ if 40 < (↑x_1.size : Int) then 40 else (↑x_1.size : Int)) ∧
 (if 40 < (↑x_1.size : Int) then 40 else (↑x_1.size : Int)) ≤ (↑x.size : Int)) ∧
 ∃ (x_2 : ByteArray),
 (∀ (w' : World), S w' → w'.cell? (Addr.mk n_1 (0 + 1) none) = some (Value.string x_2)) ∧
 ∃ (x_3 : ByteArray),
 (∀ (w' : World), S w' → w'.cell? (Addr.mk n_1 (0 + 1) none) = some (Value.string x_3)) ∧
 ((0 ≤ if 300 < (↑x_3.size : Int) then 300 else (↑x_3.size : Int)) ∧
 (if 300 < (↑x_3.size : Int) then 300 else (↑x_3.size : Int)) ≤ (↑x_2.size : Int)) ∧
 ∃ (x_4 : Int),
 (∀ (w' : World), S w' → w'.cell? (Addr.mk n_1 (0 + 2) none) = some (Value.int IntKind.i64 x_4)) ∧
 ∃ (x_5 : Int),
 (∀ (w' : World), S w' → w'.cell? (Addr.mk n_1 (0 + 3) none) = some (Value.int IntKind.i64 x_5)) ∧
 ∀ (n_3 : Nat) (w1_2 : World),
 NewB w1.drew
 (Obj.cells
 #[Value.string (ByteArray.mk #[]), Value.string (ByteArray.mk #[]), Value.int IntKind.i64 0,
 Value.int IntKind.i64 0, Value.slice none 0 0]
 24)
 n_3 w1_2 →
 S w1_2 ∧
 WrL w1_2 n_3 0 5 ∧
 ∀ (w1 : World),
 PutB w1_2 n_3 0
 [Value.string
 (x.extract 0 (if 40 < (↑x_1.size : Int) then 40 else (↑x_1.size : Int)).toNat),
 Value.string
 (x_2.extract 0 (if 300 < (↑x_3.size : Int) then 300 else (↑x_3.size : Int)).toNat),
 Value.int IntKind.i64 x_4, Value.int IntKind.i64 x_5, Value.slice none 0 0]
 w1 →
 ∃ (I : List Value → World → Prop),
 ∃ (m : List Value → World → Nat),
 I [Value.int IntKind.i64 0] w1 ∧
 ∀ (x : Int) (w' : World),
 I [Value.int IntKind.i64 x] w' →
 ∃ (p : Option Addr),
 ∃ (n_4 : Nat),
 ∃ (c : Nat),
 w'.cell? (Addr.mk n_1 (0 + 4) none) = some (Value.slice p n_4 c) ∧
 bsp (decide (x < (↑n_4 : Int)) && decide (x < 10))
 (∃ (S : World → Prop),
 S w'.drew ∧
 ∃ (p : Option Addr),
 ∃ (n : Nat),
 ∃ (c : Nat),
 (∀ (w' : World),
 S w' → w'.cell? (Addr.mk n_3 (0 + 4) none) = some (Value.slice p n c)) ∧
 ∃ (p_1 : Option Addr),
 ∃ (n_5 : Nat),
 ∃ (c_1 : Nat),
 (∀ (w' : World),
 S w' →
 w'.cell? (Addr.mk n_1 (0 + 4) none) =
 some (Value.slice p_1 n_5 c_1)) ∧
 nn true p_1 fun (b o : Nat) =>
 (0 ≤ x ∧ x < (↑n_5 : Int)) ∧
 ∃ (x_6 : ByteArray),
 (∀ (w' : World),
 S w' →
 w'.cell? (Addr.mk b (o + x.toNat) none) =
 some (Value.string x_6)) ∧
 ∀ (n_6 : Nat) (w1 : World),
 NewB w'.drew (Obj.cells #[Value.string x_6] 9) n_6 w1 →
 S w1 ∧
 ∃ (base : Nat),
 ∃ (xs : List Value),
 ∃ (news : List Value),
 w1.ownsRow base 9 1 (Value.slice p n c) n xs ∧
 news.length = 1 ∧
 SrcP w1 (some (Addr.mk n_6 0 none)) news ∧
 n + 1 ≤ 9223372036854775807 ∧
 (n + 1) * 16 ≤ 140737488355328 ∧
 base ≤ w1.heap.size ∧
 ∀ (p' : Option Addr) (c' : Nat) (w'_1 : World),
 w'_1.ownsRow base 9 1 (Value.slice p' (n + 1) c')
 (n + 1) (xs ++ news) →
 w1.grownBy w'_1 (Value.slice p n c).ownBlock →
 ((∃ (u : Value),
 w'_1.cell? (Addr.mk n_3 (0 + 4) none) =
 some u) ∧
 w'_1.frozen? (Addr.mk n_3 (0 + 4) none) =
 false) ∧
 ∀ (w1 : World),
 PutB w'_1 n_3 (0 + 4) [Value.slice p' (n + 1) c']
 w1 →
 I
 [Value.int IntKind.i64
 (IntKind.i64.wrap (x + 1))]
 w1 ∧
 m
 [Value.int IntKind.i64
 (IntKind.i64.wrap (x + 1))]
 w1 <
 m [Value.int IntKind.i64 x] w')
 (∃ (S : World → Prop),
 S w'.drew ∧
 ∃ (x : ByteArray),
 (∀ (w' : World),
 S w' → w'.cell? (Addr.mk n_3 0 none) = some (Value.string x)) ∧
 ∃ (x_6 : ByteArray),
 (∀ (w' : World),
 S w' → w'.cell? (Addr.mk n_3 (0 + 1) none) = some (Value.string x_6)) ∧
 ∃ (x_7 : Int),
 (∀ (w' : World),
 S w' →
 w'.cell? (Addr.mk n_3 (0 + 2) none) =
 some (Value.int IntKind.i64 x_7)) ∧
 ∃ (x_8 : Int),
 (∀ (w' : World),
 S w' →
 w'.cell? (Addr.mk n_3 (0 + 3) none) =
 some (Value.int IntKind.i64 x_8)) ∧
 ∃ (p : Option Addr),
 ∃ (n_5 : Nat),
 ∃ (c : Nat),
 (∀ (w' : World),
 S w' →
 w'.cell? (Addr.mk n_3 (0 + 4) none) =
 some (Value.slice p n_5 c)) ∧
 ∃ (x_9 : ByteArray),
 ∃ (x_10 : ByteArray),
 ∃ (x_11 : Int),
 ∃ (x_12 : Int),
 ∃ (p_1 : Option Addr),
 ∃ (n_6 : Nat),
 ∃ (c : Nat),
 (∀ (w' : World),
 S w' →
 AtL w' n_3 0
 [Value.string x_9, Value.string x_10,
 Value.int IntKind.i64 x_11,
 Value.int IntKind.i64 x_12, Value.slice p_1 n_6 c]) ∧
 ∀ (n_7 : Nat) (w1 : World),
 NewB w'.drew (Obj.cells #[] 9) n_7 w1 →
 S w1 ∧
 ∃ (base : Nat),
 ∃ (xs : List Value),
 ∃ (news : List Value),
 w1.ownsRow base 9 1
 (Value.slice (some (Addr.mk n_7 0 none)) 0 0) 0
 xs ∧
 news.length = n_5 * 1 ∧
 SrcP w1 p news ∧
 0 + n_5 ≤ 9223372036854775807 ∧
 (0 + n_5) * 16 ≤ 140737488355328 ∧
 base ≤ w1.heap.size ∧
 ∀ (p' : Option Addr) (c' : Nat) (w' : World),
 w'.ownsRow base 9 1
 (Value.slice p' (0 + n_5) c') (0 + n_5)
 (xs ++ news) →
 w1.grownBy w'
 (Value.slice (some (Addr.mk n_7 0 none)) 0
 0).ownBlock →
 S w' ∧
 WrL w' n 0 5 ∧
 ∀ (w1 : World),
 PutB w' n 0
 [Value.string x, Value.string x_6,
 Value.int IntKind.i64 x_7,
 Value.int IntKind.i64 x_8,
 Value.slice p' (0 + n_5) c']
 w1 →
 S w1 ∧
 WrL w1 n_2 0 5 ∧
 ∀ (w1_3 : World),
 PutB w1 n_2 0
 [Value.string x_9,
 Value.string x_10,
 Value.int IntKind.i64 x_11,
 Value.int IntKind.i64 x_12,
 Value.slice p_1 n_6 c]
 w1_3 →
 J
 [Value.pointer
 (some (Addr.mk n 0 none)),
 Value.pointer
 (some (Addr.mk n_2 0 none))]
 w1_3)) ∧
 ∀ (x x_1 : Option Addr) (w' : World),
 J [Value.pointer x, Value.pointer x_1] w' →
 nn true x fun (b o : Nat) =>
 ∃ (x : ByteArray),
 ∃ (x_2 : ByteArray),
 ∃ (x_3 : Int),
 ∃ (x_4 : Int),
 ∃ (p : Option Addr),
 ∃ (n : Nat),
 ∃ (c : Nat),
 AtL w' b o
 [Value.string x, Value.string x_2, Value.int IntKind.i64 x_3, Value.int IntKind.i64 x_4,
 Value.slice p n c] ∧
 nn true x_1 fun (b o : Nat) =>
 ∃ (x_5 : ByteArray),
 ∃ (x_6 : ByteArray),
 ∃ (x_7 : Int),
 ∃ (x_8 : Int),
 ∃ (p_1 : Option Addr),
 ∃ (n_1 : Nat),
 ∃ (c_1 : Nat),
 AtL w' b o
 [Value.string x_5, Value.string x_6, Value.int IntKind.i64 x_7, Value.int IntKind.i64 x_8,
 Value.slice p_1 n_1 c_1] ∧
 R
 (Ending.returned
 (Value.tuple
 #[Value.agg
 #[Value.string x, Value.string x_2, Value.int IntKind.i64 x_3, Value.int IntKind.i64 x_4,
 Value.slice p n c],
 Value.agg
 #[Value.string x_5, Value.string x_6, Value.int IntKind.i64 x_7, Value.int IntKind.i64 x_8,
 Value.slice p_1 n_1 c_1]]))
 w'
theorem vc_lto (nb : ByteArray) (ps : ByteArray) (mb : Int) (dl : Int) (p : Option Addr) (n : Nat) (c : Nat) (w : World) (R : Ending → World → Prop) (h : VC_lto nb ps mb dl p n c w R) : Calls Tryd.prog 10 ([Value.agg
    #[Value.string nb, Value.string ps, Value.int IntKind.i64 mb, Value.int IntKind.i64 dl,
      Value.slice p n c]] : List Value).toArray w R := by
  have e : execR { P := Tryd.prog, loops := [(3, [(5, Ck.int IntKind.i64)])], pur := pur1, tails := [(1, 19), (5, 7), (6, 8)], joins := [(999999, [(2, .ptr), (3, .ptr)])], boxes := [] } Tryd.f10.results.toList R (Tryd.f10.body.getD .skip) (initF [Value.agg
    #[Value.string nb, Value.string ps, Value.int IntKind.i64 mb, Value.int IntKind.i64 dl,
      Value.slice p n
        c]] (Tryd.f10.ntmps - ([Value.agg
    #[Value.string nb, Value.string ps, Value.int IntKind.i64 mb, Value.int IntKind.i64 dl,
      Value.slice p n c]] : List Value).length)) w = VC_lto nb ps mb dl p n c w R := by kernel_rfl
  have hb : Tryd.f10.body = some (Tryd.f10.body.getD .skip) := by kernel_rfl
  exact calls_of_exec' (P := Tryd.prog) (fn := Tryd.f10) (c := Tryd.f10.body.getD .skip) (args := [Value.agg
    #[Value.string nb, Value.string ps, Value.int IntKind.i64 mb, Value.int IntKind.i64 dl,
      Value.slice p n c]]) (w := w) (R := R) pur1_ok Tryd.func10 hb e h

def VC_litem (a : Array Value) (w : World) (R : Ending → World → Prop) : Prop :=
 ∃ (J : List Value → World → Prop),
 (∀ (n : Nat) (w1 : World),
 NewB w (Obj.cells a 27) n w1 →
 ∀ (n_1 : Nat) (w1_1 : World),
 NewB w1
 (Obj.cells
 #[Value.int IntKind.u8 0, Value.int IntKind.u8 0, Value.int IntKind.u8 0, Value.int IntKind.u8 0,
 Value.int IntKind.u8 0, Value.int IntKind.u8 0, Value.int IntKind.u8 0, Value.int IntKind.u8 0,
 Value.int IntKind.u8 0, Value.int IntKind.u8 0, Value.int IntKind.u8 0, Value.int IntKind.u8 0,
 Value.int IntKind.u8 0, Value.int IntKind.u8 0, Value.int IntKind.u8 0, Value.int IntKind.u8 0,
 Value.int IntKind.u8 0, Value.int IntKind.u8 0, Value.int IntKind.u8 0, Value.int IntKind.u8 0,
 Value.int IntKind.u8 0, Value.int IntKind.u8 0, Value.int IntKind.u8 0, Value.int IntKind.u8 0,
 Value.int IntKind.u8 0, Value.int IntKind.u8 0, Value.int IntKind.u8 0, Value.int IntKind.u8 0,
 Value.int IntKind.u8 0, Value.int IntKind.u8 0, Value.int IntKind.u8 0, Value.int IntKind.u8 0,
 Value.slice none 0 0, Value.string (ByteArray.mk #[]), Value.int IntKind.i64 0, Value.bool false,
 Value.string (ByteArray.mk #[]), Value.int IntKind.i64 0]
 39)
 n_1 w1_1 →
 ∀ (n_2 : Nat) (w1 : World),
 NewB w1_1
 (Obj.cells
 #[Value.int IntKind.u8 0, Value.int IntKind.u8 0, Value.int IntKind.u8 0, Value.int IntKind.u8 0,
 Value.int IntKind.u8 0, Value.int IntKind.u8 0, Value.int IntKind.u8 0, Value.int IntKind.u8 0,
 Value.int IntKind.u8 0, Value.int IntKind.u8 0, Value.int IntKind.u8 0, Value.int IntKind.u8 0,
 Value.int IntKind.u8 0, Value.int IntKind.u8 0, Value.int IntKind.u8 0, Value.int IntKind.u8 0,
 Value.int IntKind.u8 0, Value.int IntKind.u8 0, Value.int IntKind.u8 0, Value.int IntKind.u8 0,
 Value.int IntKind.u8 0, Value.int IntKind.u8 0, Value.int IntKind.u8 0, Value.int IntKind.u8 0,
 Value.int IntKind.u8 0, Value.int IntKind.u8 0, Value.int IntKind.u8 0, Value.int IntKind.u8 0,
 Value.int IntKind.u8 0, Value.int IntKind.u8 0, Value.int IntKind.u8 0, Value.int IntKind.u8 0,
 Value.slice none 0 0, Value.string (ByteArray.mk #[]), Value.int IntKind.i64 0, Value.bool false,
 Value.string (ByteArray.mk #[]), Value.int IntKind.i64 0]
 27)
 n_2 w1 →
 ∀ (n_3 : Nat) (w1_2 : World),
 NewB w1 (Obj.cells #[] 9) n_3 w1_2 →
 ∃ (p : Option Addr),
 ∃ (n_4 : Nat),
 ∃ (c : Nat),
 w1_2.cell? (Addr.mk n (0 + 32) none) = some (Value.slice p n_4 c) ∧
 ∃ (p_1 : Option Addr),
 ∃ (n_5 : Nat),
 ∃ (c_1 : Nat),
 w1_2.cell? (Addr.mk n (0 + 32) none) = some (Value.slice p_1 n_5 c_1) ∧
 ((0 ≤ if 20 < (↑n_5 : Int) then 20 else (↑n_5 : Int)) ∧
 (if 20 < (↑n_5 : Int) then 20 else (↑n_5 : Int)) ≤ (↑c : Int)) ∧
 ∃ (base : Nat),
 ∃ (xs : List Value),
 ∃ (news : List Value),
 w1_2.ownsRow base 9 1 (Value.slice (some (Addr.mk n_3 0 none)) 0 0) 0 xs ∧
 news.length = (if 20 < (↑n_5 : Int) then 20 else (↑n_5 : Int)).toNat * 1 ∧
 SrcP w1_2 p news ∧
 0 + (if 20 < (↑n_5 : Int) then 20 else (↑n_5 : Int)).toNat ≤ 9223372036854775807 ∧
 (0 + (if 20 < (↑n_5 : Int) then 20 else (↑n_5 : Int)).toNat) * 16 ≤ 140737488355328 ∧
 base ≤ w1_2.heap.size ∧
 ∀ (p' : Option Addr) (c' : Nat) (w' : World),
 w'.ownsRow base 9 1
 (Value.slice p' (0 + (if 20 < (↑n_5 : Int) then 20 else (↑n_5 : Int)).toNat) c')
 (0 + (if 20 < (↑n_5 : Int) then 20 else (↑n_5 : Int)).toNat) (xs ++ news) →
 w1_2.grownBy w' (Value.slice (some (Addr.mk n_3 0 none)) 0 0).ownBlock →
 ((∃ (u : Value), w'.cell? (Addr.mk n (0 + 32) none) = some u) ∧
 w'.frozen? (Addr.mk n (0 + 32) none) = false) ∧
 ∀ (w1 : World),
 PutB w' n (0 + 32)
 [Value.slice p' (0 + (if 20 < (↑n_5 : Int) then 20 else (↑n_5 : Int)).toNat) c'] w1 →
 ∃ (S : World → Prop),
 S w1.drew ∧
 ∃ (f : Nat → Int),
 (∀ (w' : World),
 S w' →
 AtL w' n 0
 (arrI IntKind.u8 f 32 0)) ∧
 ∃ (p : Option Addr),
 ∃ (n_6 : Nat),
 ∃ (c : Nat),
 (∀ (w' : World),
 S w' → w'.cell? (Addr.mk n (0 + 32) none) = some (Value.slice p n_6 c)) ∧
 ∃ (x : ByteArray),
 (∀ (w' : World),
 S w' → w'.cell? (Addr.mk n (0 + 33) none) = some (Value.string x)) ∧
 ∃ (x_1 : Int),
 (∀ (w' : World),
 S w' →
 w'.cell? (Addr.mk n (0 + 34) none) = some (Value.int IntKind.i64 x_1)) ∧
 ∃ (x_2 : Bool),
 (∀ (w' : World),
 S w' → w'.cell? (Addr.mk n (0 + 35) none) = some (Value.bool x_2)) ∧
 ∃ (x_3 : ByteArray),
 (∀ (w' : World),
 S w' →
 w'.cell? (Addr.mk n (0 + 36) none) = some (Value.string x_3)) ∧
 ∃ (x_4 : Int),
 (∀ (w' : World),
 S w' →
 w'.cell? (Addr.mk n (0 + 37) none) =
 some (Value.int IntKind.i64 x_4)) ∧
 ∃ (f_1 : Nat → Int),
 ∃ (p_2 : Option Addr),
 ∃ (n_7 : Nat),
 ∃ (c : Nat),
 ∃ (x_5 : ByteArray),
 ∃ (x_6 : Int),
 ∃ (x_7 : Bool),
 ∃ (x_8 : ByteArray),
 ∃ (x_9 : Int),
 (∀ (w' : World),
 S w' →
 AtL w' n 0
 (arrI IntKind.u8 f_1 32 0 ++ [Value.slice p_2 n_7 c,
 Value.string x_5, Value.int IntKind.i64 x_6,
 Value.bool x_7, Value.string x_8,
 Value.int IntKind.i64 x_9])) ∧
 ∀ (n : Nat) (w1_3 : World),
 NewB w1.drew (Obj.cells #[] 9) n w1_3 →
 S w1_3 ∧
 ∃ (base : Nat),
 ∃ (xs : List Value),
 ∃ (news : List Value),
 w1_3.ownsRow base 9 1
 (Value.slice (some (Addr.mk n 0 none)) 0 0) 0 xs ∧
 news.length = n_6 * 1 ∧
 SrcP w1_3 p news ∧
 0 + n_6 ≤ 9223372036854775807 ∧
 (0 + n_6) * 16 ≤ 140737488355328 ∧
 base ≤ w1_3.heap.size ∧
 ∀ (p' : Option Addr) (c' : Nat) (w' : World),
 w'.ownsRow base 9 1
 (Value.slice p' (0 + n_6) c') (0 + n_6)
 (xs ++ news) →
 w1_3.grownBy w'
 (Value.slice (some (Addr.mk n 0 none)) 0
 0).ownBlock →
 S w' ∧
 WrL w' n_1 0 38 ∧
 ∀ (w1 : World),
 PutB w' n_1 0
 (arrI IntKind.u8 f 32 0 ++ [Value.slice p' (0 + n_6) c',
 Value.string x,
 Value.int IntKind.i64 x_1,
 Value.bool x_2, Value.string x_3,
 Value.int IntKind.i64 x_4])
 w1 →
 S w1 ∧
 WrL w1 n_2 0 38 ∧
 ∀ (w1_4 : World),
 PutB w1 n_2 0
 (arrI IntKind.u8 f_1 32 0 ++ [Value.slice p_2 n_7 c,
 Value.string x_5,
 Value.int IntKind.i64 x_6,
 Value.bool x_7, Value.string x_8,
 Value.int IntKind.i64 x_9])
 w1_4 →
 J
 [Value.pointer
 (some (Addr.mk n_1 0 none)),
 Value.pointer
 (some (Addr.mk n_2 0 none))]
 w1_4) ∧
 ∀ (x x_1 : Option Addr) (w' : World),
 J [Value.pointer x, Value.pointer x_1] w' →
 nn true x fun (b o : Nat) =>
 ∃ (f : Nat → Int),
 ∃ (p : Option Addr),
 ∃ (n : Nat),
 ∃ (c : Nat),
 ∃ (x : ByteArray),
 ∃ (x_2 : Int),
 ∃ (x_3 : Bool),
 ∃ (x_4 : ByteArray),
 ∃ (x_5 : Int),
 AtL w' b o
 (arrI IntKind.u8 f 32 0 ++ [Value.slice p n c, Value.string x,
 Value.int IntKind.i64 x_2, Value.bool x_3, Value.string x_4, Value.int IntKind.i64 x_5]) ∧
 nn true x_1 fun (b o : Nat) =>
 ∃ (f_1 : Nat → Int),
 ∃ (p_1 : Option Addr),
 ∃ (n_1 : Nat),
 ∃ (c_1 : Nat),
 ∃ (x_6 : ByteArray),
 ∃ (x_7 : Int),
 ∃ (x_8 : Bool),
 ∃ (x_9 : ByteArray),
 ∃ (x_10 : Int),
 AtL w' b o
 (arrI IntKind.u8 f_1 32 0 ++ [Value.slice p_1 n_1 c_1,
 Value.string x_6, Value.int IntKind.i64 x_7, Value.bool x_8, Value.string x_9,
 Value.int IntKind.i64 x_10]) ∧
 R
 (Ending.returned
 (Value.tuple
 #[Value.agg
 (arrI IntKind.u8 f 32 0 ++ [Value.slice p n c,
 Value.string x, Value.int IntKind.i64 x_2, Value.bool x_3, Value.string x_4,
 Value.int IntKind.i64 x_5]).toArray,
 Value.agg
 (arrI IntKind.u8 f_1 32 0 ++ [Value.slice p_1 n_1 c_1,
 Value.string x_6, Value.int IntKind.i64 x_7, Value.bool x_8, Value.string x_9,
 Value.int IntKind.i64 x_10]).toArray]))
 w'
theorem vc_litem (a : Array Value) (w : World) (R : Ending → World → Prop) (h : VC_litem a w R) : Calls Tryd.prog 14 ([Value.agg
    a] : List Value).toArray w R := by
  have e : execR { P := Tryd.prog, loops := [], pur := pur1, tails := [(2, 2)], joins := [(999999, [(2, .ptr), (3, .ptr)])], boxes := [] } Tryd.f14.results.toList R (Tryd.f14.body.getD .skip) (initF [Value.agg
    a] (Tryd.f14.ntmps - ([Value.agg a] : List Value).length)) w = VC_litem a w R := by kernel_rfl
  have hb : Tryd.f14.body = some (Tryd.f14.body.getD .skip) := by kernel_rfl
  exact calls_of_exec' (P := Tryd.prog) (fn := Tryd.f14) (c := Tryd.f14.body.getD .skip) (args := [Value.agg
    a]) (w := w) (R := R) pur1_ok Tryd.func14 hb e h

def VC_quotas (lim : Int) (p : Option Addr) (n : Nat) (c : Nat) (at_ : Int) (w : World) (R : Ending → World → Prop) : Prop :=
 CallsS Tryd.prog 19 #[Value.int IntKind.i64 lim] w fun (e : Ending) (w' : World) =>
 ∃ (x : Option Addr),
 ∃ (x_1 : Int),
 e = Ending.returned (Value.tuple #[Value.pointer x, Value.int IntKind.i64 x_1]) ∧
 bsp (decide (lim < 0) || decide (lim > 1099511627776))
 (CallsS Tryd.prog 12 #[] w' fun (e : Ending) (w' : World) =>
 ∃ (x_2 : Bool),
 e = Ending.returned (Value.bool x_2) ∧ R (Ending.returned (Value.bool (x_2 && x.isNone && x_1 == 2))) w')
 (CallsS Tryd.prog 12 #[] w' fun (e : Ending) (w' : World) =>
 ∃ (x_2 : Bool),
 e = Ending.returned (Value.bool x_2) ∧
 bsp (!x_2 || x.isNone || x_1 != 0) (R (Ending.returned (Value.bool false)) w')
 (∀ (n_1 : Nat) (w1 : World),
 NewB w' (Obj.cells #[Value.int IntKind.i64 0, Value.int IntKind.i64 0, Value.int IntKind.i64 0] 52) n_1 w1 →
 WrL w1 n_1 0 3 ∧
 ∀ (w1_1 : World),
 PutB w1 n_1 0 [Value.int IntKind.i64 lim, Value.int IntKind.i64 0, Value.int IntKind.i64 0] w1_1 →
 ∃ (I : List Value → World → Prop),
 ∃ (m : List Value → World → Nat),
 I [Value.int IntKind.i64 0] w1_1 ∧
 ∀ (x_3 : Int) (w' : World),
 I [Value.int IntKind.i64 x_3] w' →
 bsp (decide (x_3 < (↑n : Int)) && decide (x_3 < 60))
 (∃ (J : List Value → World → Prop),
 (∃ (S : World → Prop),
 S w'.drew ∧
 ∃ (x : Int),
 ∃ (x_4 : Int),
 ∃ (x_5 : Int),
 (∀ (w' : World),
 S w' →
 AtL w' n_1 0
 [Value.int IntKind.i64 x, Value.int IntKind.i64 x_4, Value.int IntKind.i64 x_5]) ∧
 nn true p fun (b o : Nat) =>
 (0 ≤ x_3 ∧ x_3 < (↑n : Int)) ∧
 ∃ (x_6 : Int),
 (∀ (w' : World),
 S w' →
 w'.cell? (Addr.mk b (o + x_3.toNat * 2) none) = some (Value.int IntKind.i64 x_6)) ∧
 nn true p fun (b o : Nat) =>
 (0 ≤ x_3 ∧ x_3 < (↑n : Int)) ∧
 ∃ (x_7 : Int),
 (∀ (w' : World),
 S w' →
 w'.cell? (Addr.mk b (o + x_3.toNat * 2 + 1) none) =
 some (Value.int IntKind.i64 x_7)) ∧
 (CallsS Tryd.prog 20
 #[Value.agg
 #[Value.int IntKind.i64 x, Value.int IntKind.i64 x_4,
 Value.int IntKind.i64 x_5],
 Value.int IntKind.i64 x_6, Value.int IntKind.i64 x_7]
 w'.drew fun (e : Ending) (w' : World) =>
 ∃ (x : Int),
 ∃ (x_8 : Int),
 ∃ (x_9 : Int),
 ∃ (x_10 : Int),
 e =
 Ending.returned
 (Value.tuple
 #[Value.agg
 #[Value.int IntKind.i64 x, Value.int IntKind.i64 x_8,
 Value.int IntKind.i64 x_9],
 Value.int IntKind.i64 x_10]) ∧
 ∀ (n : Nat) (w1 : World),
 NewB w'
 (Obj.cells
 #[Value.int IntKind.i64 0, Value.int IntKind.i64 0,
 Value.int IntKind.i64 0]
 52)
 n w1 →
 S w1 ∧
 WrL w1 n 0 3 ∧
 ∀ (w1_2 : World),
 PutB w1 n 0
 [Value.int IntKind.i64 x, Value.int IntKind.i64 x_8,
 Value.int IntKind.i64 x_9]
 w1_2 →
 J [Value.pointer (some (Addr.mk n 0 none)), Value.int IntKind.i64 x_10]
 w1_2) ∧
 ∀ (n : Nat) (w1 : World),
 NewB w'.drew
 (Obj.cells
 #[Value.int IntKind.i64 0, Value.int IntKind.i64 0, Value.int IntKind.i64 0]
 52)
 n w1 →
 S w1 ∧
 CallsS Tryd.prog 20
 #[Value.agg
 #[Value.int IntKind.i64 x, Value.int IntKind.i64 x_4,
 Value.int IntKind.i64 x_5],
 Value.int IntKind.i64 x_6, Value.int IntKind.i64 x_7]
 w1 fun (e : Ending) (w' : World) =>
 ∃ (x : Int),
 ∃ (x_8 : Int),
 ∃ (x_9 : Int),
 ∃ (x_10 : Int),
 e =
 Ending.returned
 (Value.tuple
 #[Value.agg
 #[Value.int IntKind.i64 x, Value.int IntKind.i64 x_8,
 Value.int IntKind.i64 x_9],
 Value.int IntKind.i64 x_10]) ∧
 WrL w' n 0 3 ∧
 ∀ (w1 : World),
 PutB w' n 0
 [Value.int IntKind.i64 x, Value.int IntKind.i64 x_8,
 Value.int IntKind.i64 x_9]
 w1 →
 J [Value.pointer (some (Addr.mk n 0 none)), Value.int IntKind.i64 x_10]
 w1) ∧
 ∀ (x_4 : Option Addr) (x_5 : Int) (w'_1 : World),
 J [Value.pointer x_4, Value.int IntKind.i64 x_5] w'_1 →
 ∃ (S : World → Prop),
 S w'_1.drew ∧
 nn true p fun (b o : Nat) =>
 (0 ≤ x_3 ∧ x_3 < (↑n : Int)) ∧
 ∃ (x_6 : Int),
 (∀ (w' : World),
 S w' →
 w'.cell? (Addr.mk b (o + x_3.toNat * 2) none) = some (Value.int IntKind.i64 x_6)) ∧
 nn true p fun (b o : Nat) =>
 (0 ≤ x_3 ∧ x_3 < (↑n : Int)) ∧
 ∃ (x_7 : Int),
 (∀ (w' : World),
 S w' →
 w'.cell? (Addr.mk b (o + x_3.toNat * 2 + 1) none) =
 some (Value.int IntKind.i64 x_7)) ∧
 CallsS Tryd.prog 21
 #[Value.pointer x, Value.int IntKind.i64 x_6, Value.int IntKind.i64 x_7] w'_1.drew
 fun (e : Ending) (w'_2 : World) =>
 ∃ (x_8 : Int),
 e = Ending.returned (Value.int IntKind.i64 x_8) ∧
 S w'_2 ∧
 nn (!x_8 != x_5) p fun (b o : Nat) =>
 gimp (!x_8 != x_5) (0 ≤ x_3 ∧ x_3 < (↑n : Int)) ∧
 ∃ (x_9 : Int),
 gimp (!x_8 != x_5)
 (∀ (w' : World),
 S w' →
 w'.cell? (Addr.mk b (o + x_3.toNat * 2 + 1) none) =
 some (Value.int IntKind.i64 x_9)) ∧
 nn (!x_8 != x_5) x_4 fun (b o : Nat) =>
 ∃ (x_10 : Int),
 ∃ (x_11 : Int),
 ∃ (x_12 : Int),
 gimp (!x_8 != x_5)
 (∀ (w' : World),
 S w' →
 AtL w' b o
 [Value.int IntKind.i64 x_10, Value.int IntKind.i64 x_11,
 Value.int IntKind.i64 x_12]) ∧
 nn (!x_8 != x_5) p fun (b o : Nat) =>
 gimp (!x_8 != x_5) (0 ≤ x_3 ∧ x_3 < (↑n : Int)) ∧
 ∃ (x_13 : Int),
 gimp (!x_8 != x_5)
 (∀ (w' : World),
 S w' →
 w'.cell? (Addr.mk b (o + x_3.toNat * 2 + 1) none) =
 some (Value.int IntKind.i64 x_13)) ∧
 bsp (!x_8 != x_5)
 (CallsS Tryd.prog 22 #[Value.pointer x, Value.int IntKind.i64 x_9]
 w'_2 fun (e : Ending) (w'_3 : World) =>
 ∃ (x_14 : Int),
 e = Ending.returned (Value.int IntKind.i64 x_14) ∧
 S w'_3 ∧
 CallsS Tryd.prog 23
 #[Value.agg
 #[Value.int IntKind.i64 x_10, Value.int IntKind.i64 x_11,
 Value.int IntKind.i64 x_12],
 Value.int IntKind.i64 x_13]
 w'_3 fun (e : Ending) (w'_4 : World) =>
 ∃ (x_15 : Int),
 e = Ending.returned (Value.int IntKind.i64 x_15) ∧
 S w'_4 ∧
 nn (!(false || x_14 != x_15)) x_4 fun (b o : Nat) =>
 ∃ (x_16 : Int),
 ∃ (x_17 : Int),
 ∃ (x_18 : Int),
 gimp (!(false || x_14 != x_15))
 (∀ (w' : World),
 S w' →
 AtL w' b o
 [Value.int IntKind.i64 x_16,
 Value.int IntKind.i64 x_17,
 Value.int IntKind.i64 x_18]) ∧
 bsp (!(false || x_14 != x_15))
 (CallsS Tryd.prog 22
 #[Value.pointer x, Value.int IntKind.i64 at_] w'_4
 fun (e : Ending) (w'_5 : World) =>
 ∃ (x : Int),
 e = Ending.returned (Value.int IntKind.i64 x) ∧
 S w'_5 ∧
 CallsS Tryd.prog 23
 #[Value.agg
 #[Value.int IntKind.i64 x_16,
 Value.int IntKind.i64 x_17,
 Value.int IntKind.i64 x_18],
 Value.int IntKind.i64 at_]
 w'_5 fun (e : Ending) (w'_6 : World) =>
 ∃ (x_19 : Int),
 e =
 Ending.returned (Value.int IntKind.i64 x_19) ∧
 bsp (false || x != x_19)
 (R (Ending.returned (Value.bool false)) w'_6)
 (nn true x_4 fun (b o : Nat) =>
 ∃ (x : Int),
 ∃ (x_20 : Int),
 ∃ (x_21 : Int),
 AtL w'_6 b o
 [Value.int IntKind.i64 x,
 Value.int IntKind.i64 x_20,
 Value.int IntKind.i64 x_21] ∧
 WrL w'_6 n_1 0 3 ∧
 ∀ (w1 : World),
 PutB w'_6 n_1 0
 [Value.int IntKind.i64 x,
 Value.int IntKind.i64 x_20,
 Value.int IntKind.i64 x_21]
 w1 →
 I
 [Value.int IntKind.i64
 (IntKind.i64.wrap (x_3 + 1))]
 w1 ∧
 m
 [Value.int IntKind.i64
 (IntKind.i64.wrap (x_3 + 1))]
 w1 <
 m [Value.int IntKind.i64 x_3] w'))
 (S w'_4 ∧
 R (Ending.returned (Value.bool false)) w'_4))
 (S w'_2 ∧
 S w'_2 ∧
 nn (!true) x_4 fun (b o : Nat) =>
 ∃ (x : Int),
 ∃ (x : Int),
 ∃ (x : Int),
 True ∧ S w'_2 ∧ R (Ending.returned (Value.bool false)) w'_2))
 (R (Ending.returned (Value.bool true)) w')))
theorem vc_quotas (lim : Int) (p : Option Addr) (n : Nat) (c : Nat) (at_ : Int) (w : World) (R : Ending → World → Prop) (h : VC_quotas lim p n c at_ w R) : Calls Tryd.prog 5 ([Value.int
    IntKind.i64 lim,
  Value.slice p n c, Value.int IntKind.i64 at_] : List Value).toArray w R := by
  have e : execR { P := Tryd.prog, loops := [(8, [(10, Ck.int IntKind.i64)])], pur := pur1, tails := [(10, 11), (11, 11)], joins := [(11, [(11, .ptr), (12, Ck.int IntKind.i64)])], boxes := [] } Tryd.f5.results.toList R (Tryd.f5.body.getD .skip) (initF [Value.int
    IntKind.i64 lim,
  Value.slice p n c,
  Value.int IntKind.i64
    at_] (Tryd.f5.ntmps - ([Value.int IntKind.i64 lim, Value.slice p n c,
  Value.int IntKind.i64 at_] : List Value).length)) w = VC_quotas lim p n c at_ w R := by kernel_rfl
  have hb : Tryd.f5.body = some (Tryd.f5.body.getD .skip) := by kernel_rfl
  exact calls_of_exec' (P := Tryd.prog) (fn := Tryd.f5) (c := Tryd.f5.body.getD .skip) (args := [Value.int IntKind.i64
    lim,
  Value.slice p n c, Value.int IntKind.i64 at_]) (w := w) (R := R) pur1_ok Tryd.func5 hb e h

def VC_controls (nb : ByteArray) (ps : ByteArray) (mb : Int) (dl : Int) (p : Option Addr) (n : Nat) (c : Nat) (a : Array Value) (w : World) (R : Ending → World → Prop) : Prop :=
 ∀ (n_1 : Nat) (w1 : World),
 NewB w
 (Obj.cells #[Value.string nb, Value.string ps, Value.int IntKind.i64 mb, Value.int IntKind.i64 dl, Value.slice p n c]
 24)
 n_1 w1 →
 ∀ (n : Nat) (w1_1 : World),
 NewB w1 (Obj.cells a 27) n w1_1 →
 ∃ (x : ByteArray),
 ∃ (x_1 : ByteArray),
 ∃ (x_2 : Int),
 ∃ (x_3 : Int),
 ∃ (p : Option Addr),
 ∃ (n_2 : Nat),
 ∃ (c : Nat),
 AtL w1_1 n_1 0
 [Value.string x, Value.string x_1, Value.int IntKind.i64 x_2, Value.int IntKind.i64 x_3,
 Value.slice p n_2 c] ∧
 CallsS Tryd.prog 10
 #[Value.agg
 #[Value.string x, Value.string x_1, Value.int IntKind.i64 x_2, Value.int IntKind.i64 x_3,
 Value.slice p n_2 c]]
 w1_1 fun (e : Ending) (w' : World) =>
 ∃ (x : ByteArray),
 ∃ (x_4 : ByteArray),
 ∃ (x_5 : Int),
 ∃ (x_6 : Int),
 ∃ (p : Option Addr),
 ∃ (n_3 : Nat),
 ∃ (c : Nat),
 ∃ (x_7 : ByteArray),
 ∃ (x_8 : ByteArray),
 ∃ (x_9 : Int),
 ∃ (x_10 : Int),
 ∃ (p_1 : Option Addr),
 ∃ (n_4 : Nat),
 ∃ (c_1 : Nat),
 e =
 Ending.returned
 (Value.tuple
 #[Value.agg
 #[Value.string x, Value.string x_4, Value.int IntKind.i64 x_5,
 Value.int IntKind.i64 x_6, Value.slice p n_3 c],
 Value.agg
 #[Value.string x_7, Value.string x_8, Value.int IntKind.i64 x_9,
 Value.int IntKind.i64 x_10, Value.slice p_1 n_4 c_1]]) ∧
 ∀ (n_5 : Nat) (w1 : World),
 NewB w'
 (Obj.cells
 #[Value.string (ByteArray.mk #[]), Value.string (ByteArray.mk #[]),
 Value.int IntKind.i64 0, Value.int IntKind.i64 0, Value.slice none 0 0]
 28)
 n_5 w1 →
 ∀ (n_6 : Nat) (w1_2 : World),
 NewB w1
 (Obj.cells
 #[Value.string (ByteArray.mk #[]), Value.string (ByteArray.mk #[]),
 Value.int IntKind.i64 0, Value.int IntKind.i64 0, Value.slice none 0 0]
 24)
 n_6 w1_2 →
 WrL w1_2 n_5 0 5 ∧
 ∀ (w1 : World),
 PutB w1_2 n_5 0
 [Value.string x, Value.string x_4, Value.int IntKind.i64 x_5,
 Value.int IntKind.i64 x_6, Value.slice p n_3 c]
 w1 →
 WrL w1 n_6 0 5 ∧
 ∀ (w1_3 : World),
 PutB w1 n_6 0
 [Value.string x_7, Value.string x_8, Value.int IntKind.i64 x_9,
 Value.int IntKind.i64 x_10, Value.slice p_1 n_4 c_1]
 w1_3 →
 ∃ (x : ByteArray),
 ∃ (x_11 : ByteArray),
 ∃ (x_12 : Int),
 ∃ (x_13 : Int),
 ∃ (p : Option Addr),
 ∃ (n_7 : Nat),
 ∃ (c : Nat),
 AtL w1_3 n_5 0
 [Value.string x, Value.string x_11, Value.int IntKind.i64 x_12,
 Value.int IntKind.i64 x_13, Value.slice p n_7 c] ∧
 CallsS Tryd.prog 11
 #[Value.agg
 #[Value.string x, Value.string x_11, Value.int IntKind.i64 x_12,
 Value.int IntKind.i64 x_13, Value.slice p n_7 c]]
 w1_3 fun (e : Ending) (w' : World) =>
 ∃ (x : Option Addr),
 ∃ (x_14 : Int),
 e =
 Ending.returned
 (Value.tuple #[Value.pointer x, Value.int IntKind.i64 x_14]) ∧
 bsp (x_14 != 0 || x.isNone)
 (CallsS Tryd.prog 12 #[] w' fun (e : Ending) (w' : World) =>
 ∃ (x : Bool),
 e = Ending.returned (Value.bool x) ∧
 R (Ending.returned (Value.bool x)) w')
 (∃ (f : Nat → Int),
 ∃ (p : Option Addr),
 ∃ (n_8 : Nat),
 ∃ (c : Nat),
 ∃ (x_15 : ByteArray),
 ∃ (x_16 : Int),
 ∃ (x_17 : Bool),
 ∃ (x_18 : ByteArray),
 ∃ (x_19 : Int),
 AtL w' n 0
 (arrI IntKind.u8 f 32 0 ++ [Value.slice p n_8 c, Value.string x_15,
 Value.int IntKind.i64 x_16, Value.bool x_17,
 Value.string x_18, Value.int IntKind.i64 x_19]) ∧
 CallsS Tryd.prog 14
 #[Value.agg
 (arrI IntKind.u8 f 32 0 ++ [Value.slice p n_8 c,
 Value.string x_15, Value.int IntKind.i64 x_16,
 Value.bool x_17, Value.string x_18,
 Value.int IntKind.i64 x_19]).toArray]
 w' fun (e : Ending) (w' : World) =>
 ∃ (f : Nat → Int),
 ∃ (p : Option Addr),
 ∃ (n : Nat),
 ∃ (c : Nat),
 ∃ (x_20 : ByteArray),
 ∃ (x_21 : Int),
 ∃ (x_22 : Bool),
 ∃ (x_23 : ByteArray),
 ∃ (x_24 : Int),
 ∃ (f_1 : Nat → Int),
 ∃ (p_2 : Option Addr),
 ∃ (n_9 : Nat),
 ∃ (c_2 : Nat),
 ∃ (x_25 : ByteArray),
 ∃ (x_26 : Int),
 ∃ (x_27 : Bool),
 ∃ (x_28 : ByteArray),
 ∃ (x_29 : Int),
 e =
 Ending.returned
 (Value.tuple
 #[Value.agg
 (arrI IntKind.u8 f 32 0 ++ [Value.slice p n c,
 Value.string x_20,
 Value.int IntKind.i64 x_21,
 Value.bool x_22,
 Value.string x_23,
 Value.int IntKind.i64 x_24]).toArray,
 Value.agg
 (arrI IntKind.u8 f_1 32 0 ++ [Value.slice p_2 n_9 c_2,
 Value.string x_25,
 Value.int IntKind.i64 x_26,
 Value.bool x_27,
 Value.string x_28,
 Value.int IntKind.i64 x_29]).toArray]) ∧
 ∀ (n_10 : Nat) (w1 : World),
 NewB w'
 (Obj.cells
 #[Value.int IntKind.u8 0,
 Value.int IntKind.u8 0,
 Value.int IntKind.u8 0,
 Value.int IntKind.u8 0,
 Value.int IntKind.u8 0,
 Value.int IntKind.u8 0,
 Value.int IntKind.u8 0,
 Value.int IntKind.u8 0,
 Value.int IntKind.u8 0,
 Value.int IntKind.u8 0,
 Value.int IntKind.u8 0,
 Value.int IntKind.u8 0,
 Value.int IntKind.u8 0,
 Value.int IntKind.u8 0,
 Value.int IntKind.u8 0,
 Value.int IntKind.u8 0,
 Value.int IntKind.u8 0,
 Value.int IntKind.u8 0,
 Value.int IntKind.u8 0,
 Value.int IntKind.u8 0,
 Value.int IntKind.u8 0,
 Value.int IntKind.u8 0,
 Value.int IntKind.u8 0,
 Value.int IntKind.u8 0,
 Value.int IntKind.u8 0,
 Value.int IntKind.u8 0,
 Value.int IntKind.u8 0,
 Value.int IntKind.u8 0,
 Value.int IntKind.u8 0,
 Value.int IntKind.u8 0,
 Value.int IntKind.u8 0,
 Value.int IntKind.u8 0,
 Value.slice none 0 0,
 Value.string (ByteArray.mk #[]),
 Value.int IntKind.i64 0,
 Value.bool false,
 Value.string (ByteArray.mk #[]),
 Value.int IntKind.i64 0]
 39)
 n_10 w1 →
 ∀ (n_11 : Nat) (w1_4 : World),
 NewB w1
 (Obj.cells
 #[Value.int IntKind.u8 0,
 Value.int IntKind.u8 0,
 Value.int IntKind.u8 0,
 Value.int IntKind.u8 0,
 Value.int IntKind.u8 0,
 Value.int IntKind.u8 0,
 Value.int IntKind.u8 0,
 Value.int IntKind.u8 0,
 Value.int IntKind.u8 0,
 Value.int IntKind.u8 0,
 Value.int IntKind.u8 0,
 Value.int IntKind.u8 0,
 Value.int IntKind.u8 0,
 Value.int IntKind.u8 0,
 Value.int IntKind.u8 0,
 Value.int IntKind.u8 0,
 Value.int IntKind.u8 0,
 Value.int IntKind.u8 0,
 Value.int IntKind.u8 0,
 Value.int IntKind.u8 0,
 Value.int IntKind.u8 0,
 Value.int IntKind.u8 0,
 Value.int IntKind.u8 0,
 Value.int IntKind.u8 0,
 Value.int IntKind.u8 0,
 Value.int IntKind.u8 0,
 Value.int IntKind.u8 0,
 Value.int IntKind.u8 0,
 Value.int IntKind.u8 0,
 Value.int IntKind.u8 0,
 Value.int IntKind.u8 0,
 Value.int IntKind.u8 0,
 Value.slice none 0 0,
 Value.string (ByteArray.mk #[]),
 Value.int IntKind.i64 0,
 Value.bool false,
 Value.string (ByteArray.mk #[]),
 Value.int IntKind.i64 0]
 27)
 n_11 w1_4 →
 WrL w1_4 n_10 0 38 ∧
 ∀ (w1 : World),
 PutB w1_4 n_10 0
 (arrI IntKind.u8 f 32 0 ++ [Value.slice p n c,
 Value.string x_20,
 Value.int IntKind.i64 x_21,
 Value.bool x_22,
 Value.string x_23,
 Value.int IntKind.i64 x_24])
 w1 →
 WrL w1 n_11 0 38 ∧
 ∀ (w1_5 : World),
 PutB w1 n_11 0
 (arrI IntKind.u8 f_1 32 0 ++ [Value.slice p_2 n_9 c_2,
 Value.string x_25,
 Value.int IntKind.i64 x_26,
 Value.bool x_27,
 Value.string x_28,
 Value.int IntKind.i64 x_29])
 w1_5 →
 ((∃ (u : Value),
 w1_5.cell?
 (Addr.mk n_10 (0 + 35)
 none) =
 some u) ∧
 w1_5.frozen?
 (Addr.mk n_10 (0 + 35)
 none) =
 false) ∧
 ∀ (w1 : World),
 PutB w1_5 n_10 (0 + 35)
 [Value.bool true] w1 →
 ∃ (S : World → Prop),
 S w1.drew ∧
 ∃ (f : Nat → Int),
 ∃ (p : Option Addr),
 ∃ (n : Nat),
 ∃ (c : Nat),
 ∃ (x_30 :
 ByteArray),
 ∃ (x_31 : Int),
 ∃ (x_32 : Bool),
 ∃ (x_33 :
 ByteArray),
 ∃ (x_34 : Int),
 (∀
 (w' : World),
 S w' →
 AtL w' n_10
 0
 (arrI IntKind.u8 f 32 0 ++ [Value.slice
 p n c,
 Value.string
 x_30,
 Value.int
 IntKind.i64
 x_31,
 Value.bool
 x_32,
 Value.string
 x_33,
 Value.int
 IntKind.i64
 x_34])) ∧
 ∃ (x_35 :
 ByteArray),
 (∀
 (w' :
 World),
 S w' →
 w'.cell?
 (Addr.mk
 n_10
 (0 +
 36)
 none) =
 some
 (Value.string
 x_35)) ∧
 ∃ (x_36 :
 ByteArray),
 (∀
 (w' :
 World),
 S w' →
 w'.cell?
 (Addr.mk
 n_5 0
 none) =
 some
 (Value.string
 x_36)) ∧
 CallsS
 Tryd.prog
 17
 #[Value.pointer
 x,
 Value.agg
 (arrI IntKind.u8 f 32 0 ++ [Value.slice
 p n
 c,
 Value.string
 x_30,
 Value.int
 IntKind.i64
 x_31,
 Value.bool
 x_32,
 Value.string
 x_33,
 Value.int
 IntKind.i64
 x_34]).toArray]
 w1.drew
 fun
 (e :
 Ending)
 (w' :
 World) =>
 ∃ (x_37 :
 Int),
 e =
 Ending.returned
 (Value.int
 IntKind.i64
 x_37) ∧
 S w' ∧
 bsp
 (!(x_37 ==
 0) ==
 !x_35.toList ==
 x_36.toList)
 (R
 (Ending.returned
 (Value.bool
 false))
 w')
 (∃ (S
 :
 World →
 Prop),
 S
 w'.drew ∧
 ∃
 (x_38
 :
 ByteArray),
 (∀
 (w' :
 World),
 S
 w' →
 w'.cell?
 (Addr.mk
 n_5
 0
 none) =
 some
 (Value.string
 x_38)) ∧
 ((∃
 (u
 :
 Value),
 w'.drew.cell?
 (Addr.mk
 n_10
 (0 +
 35)
 none) =
 some
 u) ∧
 w'.drew.frozen?
 (Addr.mk
 n_10
 (0 +
 35)
 none) =
 false) ∧
 ∀
 (w1 :
 World),
 PutB
 w'.drew
 n_10
 (0 +
 35)
 [Value.bool
 false]
 w1 →
 S
 w1 ∧
 ((∃
 (u
 :
 Value),
 w1.cell?
 (Addr.mk
 n_10
 (0 +
 36)
 none) =
 some
 u) ∧
 w1.frozen?
 (Addr.mk
 n_10
 (0 +
 36)
 none) =
 false) ∧
 ∀
 (w1_6 :
 World),
 PutB
 w1
 n_10
 (0 +
 36)
 [Value.string
 x_38]
 w1_6 →
 ∃
 (f
 :
 Nat →
 Int),
 ∃
 (p
 :
 Option
 Addr),
 ∃
 (n
 :
 Nat),
 ∃
 (c
 :
 Nat),
 ∃
 (x_39
 :
 ByteArray),
 ∃
 (x_40
 :
 Int),
 ∃
 (x_41
 :
 Bool),
 ∃
 (x_42
 :
 ByteArray),
 ∃
 (x_43
 :
 Int),
 AtL
 w1_6
 n_10
 0
 (arrI IntKind.u8 f 32 0 ++ [Value.slice
 p
 n
 c,
 Value.string
 x_39,
 Value.int
 IntKind.i64
 x_40,
 Value.bool
 x_41,
 Value.string
 x_42,
 Value.int
 IntKind.i64
 x_43]) ∧
 CallsS
 Tryd.prog
 16
 #[Value.pointer
 x,
 Value.agg
 (arrI IntKind.u8 f 32 0 ++ [Value.slice
 p
 n
 c,
 Value.string
 x_39,
 Value.int
 IntKind.i64
 x_40,
 Value.bool
 x_41,
 Value.string
 x_42,
 Value.int
 IntKind.i64
 x_43]).toArray]
 w1_6
 fun
 (e :
 Ending)
 (w' :
 World) =>
 ∃
 (x_44
 :
 Int),
 ∃
 (x_45
 :
 Bool),
 e =
 Ending.returned
 (Value.tuple
 #[Value.int
 IntKind.i64
 x_44,
 Value.bool
 x_45]) ∧
 CallsS
 Tryd.prog
 12
 #[]
 w'
 fun
 (e :
 Ending)
 (w' :
 World) =>
 ∃
 (x_46
 :
 Bool),
 e =
 Ending.returned
 (Value.bool
 x_46) ∧
 ∃
 (f
 :
 Nat →
 Int),
 ∃
 (p
 :
 Option
 Addr),
 ∃
 (n
 :
 Nat),
 ∃
 (c
 :
 Nat),
 ∃
 (x_47
 :
 ByteArray),
 ∃
 (x_48
 :
 Int),
 ∃
 (x_49
 :
 Bool),
 ∃
 (x_50
 :
 ByteArray),
 ∃
 (x_51
 :
 Int),
 gimp
 x_46
 (AtL
 w'
 n_10
 0
 (arrI IntKind.u8 f 32 0 ++ [Value.slice
 p
 n
 c,
 Value.string
 x_47,
 Value.int
 IntKind.i64
 x_48,
 Value.bool
 x_49,
 Value.string
 x_50,
 Value.int
 IntKind.i64
 x_51])) ∧
 bsp
 x_46
 (CallsS
 Tryd.prog
 17
 #[Value.pointer
 x,
 Value.agg
 (arrI IntKind.u8 f 32 0 ++ [Value.slice
 p
 n
 c,
 Value.string
 x_47,
 Value.int
 IntKind.i64
 x_48,
 Value.bool
 x_49,
 Value.string
 x_50,
 Value.int
 IntKind.i64
 x_51]).toArray]
 w'
 fun
 (e :
 Ending)
 (w' :
 World) =>
 ∃
 (x
 :
 Int),
 e =
 Ending.returned
 (Value.int
 IntKind.i64
 x) ∧
 R
 (Ending.returned
 (Value.bool
 (true &&
 x ==
 1 &&
 !x_45)))
 w')
 (R
 (Ending.returned
 (Value.bool
 (false &&
 !x_45)))
 w')))
theorem vc_controls (nb : ByteArray) (ps : ByteArray) (mb : Int) (dl : Int) (p : Option Addr) (n : Nat) (c : Nat) (a : Array Value) (w : World) (R : Ending → World → Prop) (h : VC_controls nb ps mb dl p n c a w R) : Calls Tryd.prog 4 ([Value.agg
    #[Value.string nb, Value.string ps, Value.int IntKind.i64 mb, Value.int IntKind.i64 dl, Value.slice p n c],
  Value.agg a] : List Value).toArray w R := by
  have e : execR { P := Tryd.prog, loops := [], pur := pur1, tails := [(7, 2), (9, 3)], joins := [], boxes := [] } Tryd.f4.results.toList R (Tryd.f4.body.getD .skip) (initF [Value.agg
    #[Value.string nb, Value.string ps, Value.int IntKind.i64 mb, Value.int IntKind.i64 dl, Value.slice p n c],
  Value.agg
    a] (Tryd.f4.ntmps - ([Value.agg
    #[Value.string nb, Value.string ps, Value.int IntKind.i64 mb, Value.int IntKind.i64 dl, Value.slice p n c],
  Value.agg a] : List Value).length)) w = VC_controls nb ps mb dl p n c a w R := by kernel_rfl
  have hb : Tryd.f4.body = some (Tryd.f4.body.getD .skip) := by kernel_rfl
  exact calls_of_exec' (P := Tryd.prog) (fn := Tryd.f4) (c := Tryd.f4.body.getD .skip) (args := [Value.agg
    #[Value.string nb, Value.string ps, Value.int IntKind.i64 mb, Value.int IntKind.i64 dl, Value.slice p n c],
  Value.agg a]) (w := w) (R := R) pur1_ok Tryd.func4 hb e h

def VC_bounds (lim : Int) (p : Option Addr) (n : Nat) (c : Nat) (w : World) (R : Ending → World → Prop) : Prop :=
 CallsS Tryd.prog 19 #[Value.int IntKind.i64 lim] w fun (e : Ending) (w' : World) =>
 ∃ (x : Option Addr),
 ∃ (x_1 : Int),
 e = Ending.returned (Value.tuple #[Value.pointer x, Value.int IntKind.i64 x_1]) ∧
 CallsS Tryd.prog 12 #[] w' fun (e : Ending) (w' : World) =>
 ∃ (x_2 : Bool),
 e = Ending.returned (Value.bool x_2) ∧
 bsp (!x_2 || x_1 != 0 || lim == 0)
 (CallsS Tryd.prog 12 #[] w' fun (e : Ending) (w' : World) =>
 ∃ (x : Bool), e = Ending.returned (Value.bool x) ∧ R (Ending.returned (Value.bool x)) w')
 (∀ (n_1 : Nat) (w1 : World),
 NewB w' (Obj.map #[] 0) n_1 w1 →
 ∃ (I : List Value → World → Prop),
 ∃ (m : List Value → World → Nat),
 I [Value.int IntKind.i64 0] w1 ∧
 ∀ (x_3 : Int) (w' : World),
 I [Value.int IntKind.i64 x_3] w' →
 bsp (decide (x_3 < (↑n : Int)) && decide (x_3 < 60))
 (nn true p fun (b o : Nat) =>
 (0 ≤ x_3 ∧ x_3 < (↑n : Int)) ∧
 ∃ (x_4 : Int),
 w'.drew.cell? (Addr.mk b (o + x_3.toNat * 2) none) = some (Value.int IntKind.i64 x_4) ∧
 nn true p fun (b o : Nat) =>
 (0 ≤ x_3 ∧ x_3 < (↑n : Int)) ∧
 ∃ (x_5 : Int),
 w'.drew.cell? (Addr.mk b (o + x_3.toNat * 2 + 1) none) = some (Value.int IntKind.i64 x_5) ∧
 CallsS Tryd.prog 21 #[Value.pointer x, Value.int IntKind.i64 x_4, Value.int IntKind.i64 x_5]
 w'.drew fun (e : Ending) (w'_1 : World) =>
 ∃ (x : Int),
 e = Ending.returned (Value.int IntKind.i64 x) ∧
 bsp (x != 0)
 (I [Value.int IntKind.i64 (IntKind.i64.wrap (x_3 + 1))] w'_1 ∧
 m [Value.int IntKind.i64 (IntKind.i64.wrap (x_3 + 1))] w'_1 <
 m [Value.int IntKind.i64 x_3] w')
 (nn true p fun (b o : Nat) =>
 (0 ≤ x_3 ∧ x_3 < (↑n : Int)) ∧
 ∃ (x : Int),
 w'_1.cell? (Addr.mk b (o + x_3.toNat * 2 + 1) none) = some (Value.int IntKind.i64 x) ∧
 ∃ (x_6 : Int),
 LookP Tryd.prog 61 (Value.map (some n_1))
 (Value.int IntKind.i64 (IntKind.i64.wrap (x.tdiv 1440))) false
 (Value.int IntKind.i64 x_6) w'_1.drew ∧
 nn true p fun (b o : Nat) =>
 (0 ≤ x_3 ∧ x_3 < (↑n : Int)) ∧
 ∃ (x_7 : Int),
 w'_1.drew.cell? (Addr.mk b (o + x_3.toNat * 2) none) =
 some (Value.int IntKind.i64 x_7) ∧
 ∃ (w1 : World),
 UpdP Tryd.prog 61 (Value.map (some n_1))
 (Value.int IntKind.i64 (IntKind.i64.wrap (x.tdiv 1440)))
 (Value.int IntKind.i64 (IntKind.i64.wrap (x_6 + x_7))) w'_1.drew w1 ∧
 ∃ (x_8 : Int),
 LookP Tryd.prog 61 (Value.map (some n_1))
 (Value.int IntKind.i64 (IntKind.i64.wrap (x.tdiv 1440))) false
 (Value.int IntKind.i64 x_8) w1 ∧
 bsp (decide (x_8 > lim)) (R (Ending.returned (Value.bool false)) w1)
 (I [Value.int IntKind.i64 (IntKind.i64.wrap (x_3 + 1))] w1 ∧
 m [Value.int IntKind.i64 (IntKind.i64.wrap (x_3 + 1))] w1 <
 m [Value.int IntKind.i64 x_3] w')))
 (R (Ending.returned (Value.bool true)) w'))
theorem vc_bounds (lim : Int) (p : Option Addr) (n : Nat) (c : Nat) (w : World) (R : Ending → World → Prop) (h : VC_bounds lim p n c w R) : Calls Tryd.prog 6 ([Value.int
    IntKind.i64 lim,
  Value.slice p n c] : List Value).toArray w R := by
  have e : execR { P := Tryd.prog, loops := [(6, [(8, Ck.int IntKind.i64)])], pur := pur1, tails := [(8, 11), (10, 11)], joins := [], boxes := [] } Tryd.f6.results.toList R (Tryd.f6.body.getD .skip) (initF [Value.int
    IntKind.i64 lim,
  Value.slice p n
    c] (Tryd.f6.ntmps - ([Value.int IntKind.i64 lim,
  Value.slice p n c] : List Value).length)) w = VC_bounds lim p n c w R := by kernel_rfl
  have hb : Tryd.f6.body = some (Tryd.f6.body.getD .skip) := by kernel_rfl
  exact calls_of_exec' (P := Tryd.prog) (fn := Tryd.f6) (c := Tryd.f6.body.getD .skip) (args := [Value.int IntKind.i64
    lim,
  Value.slice p n c]) (w := w) (R := R) pur1_ok Tryd.func6 hb e h

end Go.Proofs.YtcpjajjocmpkjaaDoor
