/- The formulas of functions by the symbolic evaluator, and that each gives the call's contract. Written by a program (gen.py). No condition. -/
import Derived.Test.YtmlmdljnfokebaaGreatDoorProg
import Derived.Test.YtmlmdljnfokebaaGreatDoorZ02
import Derived.Test.YtmlmdljnfokebaaGreatDoorZ04
import Derived.KernelRfl
import Derived.Test.YtmlmdljnfokebaaGreatDoorZ10
namespace Go.Proofs.YtmlmdljnfokebaaGreatDoor
set_option maxRecDepth 100000
set_option linter.unusedVariables false

def VC_rfind (s : ByteArray) (next : Int) (p : Option Addr) (n : Nat) (c : Nat) (x : Int) (w : World) (R : Ending → World → Prop) : Prop :=
 ∀ (n_1 : Nat) (W : World),
 Loc w.heap.size [Blk.mk n_1 62 [Value.string s, Value.int IntKind.i64 next, Value.slice p n c] 2] w W →
 ∃ (I : List Value → World → Prop),
 ∃ (m : List Value → World → Nat),
 I [Value.int IntKind.i64 0] W ∧
 ∀ (x_1 : Int) (w' : World),
 I [Value.int IntKind.i64 x_1] w' →
 Loc w.heap.size [Blk.mk n_1 62 [Value.string s, Value.int IntKind.i64 next, Value.slice p n c] 0] w' w' →
 bsp (decide (x_1 < (↑n : Int)))
 (nn true p fun (b o : Nat) =>
 (0 ≤ x_1 ∧ x_1 < (↑n : Int)) ∧
 ∃ (x_2 : Int),
 w'.cell? (Addr.mk b (o + x_1.toNat * 12) none) = some (Value.int IntKind.i64 x_2) ∧
 bsp (x_2 == x) (R (Ending.returned (Value.int IntKind.i64 x_1)) w')
 (I [Value.int IntKind.i64 (IntKind.i64.wrap (x_1 + 1))] w' ∧
 m [Value.int IntKind.i64 (IntKind.i64.wrap (x_1 + 1))] w' < m [Value.int IntKind.i64 x_1] w'))
 (R (Ending.returned (Value.int IntKind.i64 (-1))) w')
theorem vc_rfind (s : ByteArray) (next : Int) (p : Option Addr) (n : Nat) (c : Nat) (x : Int) (w : World) (R : Ending → World → Prop) (h : VC_rfind s next p n c x w R) : Calls Tryz.prog 26 ([Value.agg
    #[Value.string s, Value.int IntKind.i64 next, Value.slice p n c],
  Value.int IntKind.i64 x] : List Value).toArray w R := by
  have e : execR2 { P := Tryz.prog, loops := [(2, [(5, Ck.int IntKind.i64)])], pur := purM, tails := [], joins := [], boxes := [] } Tryz.f26.results.toList R (Tryz.f26.body.getD .skip) (initF [Value.agg
    #[Value.string s, Value.int IntKind.i64 next, Value.slice p n c],
  Value.int IntKind.i64
    x] (Tryz.f26.ntmps - ([Value.agg #[Value.string s, Value.int IntKind.i64 next, Value.slice p n c],
  Value.int IntKind.i64 x] : List Value).length)) w = VC_rfind s next p n c x w R := by kernel_rfl
  have hb : Tryz.f26.body = some (Tryz.f26.body.getD .skip) := by kernel_rfl
  exact calls_of_exec2' (P := Tryz.prog) (fn := Tryz.f26) (c := Tryz.f26.body.getD .skip) (args := [Value.agg
    #[Value.string s, Value.int IntKind.i64 next, Value.slice p n c],
  Value.int IntKind.i64 x]) (w := w) (R := R) purM_ok Tryz.func26 hb e h

def VC_rput (s : ByteArray) (next : Int) (p : Option Addr) (n : Nat) (c : Nat) (fu : ByteArray) (fs : ByteArray) (tu : ByteArray) (ts : ByteArray) (mn : Int) (d : Int) (sj : ByteArray) (hp : Option Addr) (hn : Nat) (hc : Nat) (bd : ByteArray) (now : Int) (w : World) (R : Ending → World → Prop) : Prop :=
 ∀ (n_1 n_2 n_3 : Nat) (W : World),
 Loc w.heap.size
 [Blk.mk n_3 62 [Value.string (ByteArray.mk #[]), Value.int IntKind.i64 0, Value.slice none 0 0] 2,
 Blk.mk n_2 32
 [Value.string fu, Value.string fs, Value.string tu, Value.string ts, Value.int IntKind.i64 mn,
 Value.int IntKind.i64 d, Value.string sj, Value.slice hp hn hc, Value.string bd]
 2,
 Blk.mk n_1 62 [Value.string s, Value.int IntKind.i64 (IntKind.i64.wrap (next + 1)), Value.slice p n c] (wrM 2)]
 w W →
 ∃ (S : World → Prop),
 S W ∧
 ∃ (p : Option Addr),
 ∃ (n : Nat),
 ∃ (c : Nat),
 (∀ (w' : World), S w' → w'.cell? (Addr.mk n_1 (0 + 2) none) = some (Value.slice p n c)) ∧
 ∃ (x : Int),
 (∀ (w' : World), S w' → w'.cell? (Addr.mk n_1 (0 + 1) none) = some (Value.int IntKind.i64 x)) ∧
 ∃ (x_1 : ByteArray),
 ∃ (x_2 : ByteArray),
 ∃ (x_3 : ByteArray),
 ∃ (x_4 : ByteArray),
 ∃ (x_5 : Int),
 ∃ (x_6 : Int),
 ∃ (x_7 : ByteArray),
 ∃ (p_1 : Option Addr),
 ∃ (n_4 : Nat),
 ∃ (c : Nat),
 ∃ (x_8 : ByteArray),
 (∀ (w' : World),
 S w' →
 AtL w' n_2 0
 [Value.string x_1, Value.string x_2, Value.string x_3, Value.string x_4,
 Value.int IntKind.i64 x_5, Value.int IntKind.i64 x_6, Value.string x_7, Value.slice p_1 n_4 c,
 Value.string x_8]) ∧
 (∀ (n_5 : Nat) (w1 : World),
 NewB W (Obj.cells #[] 68) n_5 w1 →
 S w1 ∧
 (∃ (base : Nat),
 ∃ (xs : List Value),
 ∃ (news : List Value),
 w1.ownsRow base 68 12 (Value.slice (some (Addr.mk n_5 0 none)) 0 0) 0 xs ∧
 news.length = n * 12 ∧
 SrcP w1 p news ∧
 0 + n ≤ 9223372036854775807 ∧
 (0 + n) * 160 ≤ 140737488355328 ∧
 base ≤ w1.heap.size ∧
 ∀ (p' : Option Addr) (c' : Nat) (w' : World),
 w'.ownsRow base 68 12 (Value.slice p' (0 + n) c') (0 + n) (xs ++ news) →
 w1.grownBy w' (Value.slice (some (Addr.mk n_5 0 none)) 0 0).ownBlock →
 (0 + n ≤ 0 → p' = some (Addr.mk n_5 0 none) ∧ c' = 0) →
 S w' ∧
 ∀ (n_6 : Nat) (w1 : World),
 NewB w'
 (Obj.cells
 #[Value.int IntKind.i64 x, Value.int IntKind.i64 now,
 Value.int IntKind.i64 0, Value.string x_1, Value.string x_2,
 Value.string x_3, Value.string x_4, Value.int IntKind.i64 x_5,
 Value.int IntKind.i64 x_6, Value.string x_7, Value.slice p_1 n_4 c,
 Value.string x_8]
 68)
 n_6 w1 →
 S w1 ∧
 ∃ (base : Nat),
 ∃ (xs : List Value),
 ∃ (news : List Value),
 w1.ownsRow base 68 12 (Value.slice p' (0 + n) c') (0 + n) xs ∧
 news.length = 12 ∧
 SrcP w1 (some (Addr.mk n_6 0 none)) news ∧
 0 + n + 1 ≤ 9223372036854775807 ∧
 (0 + n + 1) * 160 ≤ 140737488355328 ∧
 base ≤ w1.heap.size ∧
 ∀ (p'_1 : Option Addr) (c'_1 : Nat) (w' : World),
 w'.ownsRow base 68 12 (Value.slice p'_1 (0 + n + 1) c'_1)
 (0 + n + 1) (xs ++ news) →
 w1.grownBy w' (Value.slice p' (0 + n) c').ownBlock →
 (0 + n + 1 ≤ c' → p'_1 = p' ∧ c'_1 = c') →
 ((∃ (u : Value),
 w'.cell? (Addr.mk n_1 (0 + 2) none) = some u) ∧
 w'.frozen? (Addr.mk n_1 (0 + 2) none) = false) ∧
 ∀ (w1 : World),
 PutB w' n_1 (0 + 2) [Value.slice p'_1 (0 + n + 1) c'_1] w1 →
 KeptL [n_3, n_2] W w1 ∧
 ∃ (x : ByteArray),
 ∃ (x_9 : Int),
 ∃ (p : Option Addr),
 ∃ (n : Nat),
 ∃ (c : Nat),
 AtL w1 n_1 0
 [Value.string x, Value.int IntKind.i64 x_9,
 Value.slice p n c] ∧
 ∀ (W : World),
 Loc w.heap.size
 [Blk.mk n_3 62
 [Value.string x, Value.int IntKind.i64 x_9,
 Value.slice p n c]
 (wrM 0),
 Blk.mk n_2 32
 [Value.string fu, Value.string fs,
 Value.string tu, Value.string ts,
 Value.int IntKind.i64 mn,
 Value.int IntKind.i64 d, Value.string sj,
 Value.slice hp hn hc, Value.string bd]
 0]
 w1 W →
 R
 (Ending.returned
 (Value.agg
 #[Value.string x, Value.int IntKind.i64 x_9,
 Value.slice p n c]))
 W) ∧
 ∀ (n_6 : Nat) (w1_1 : World),
 NewB w1
 (Obj.cells
 #[Value.int IntKind.i64 x, Value.int IntKind.i64 now, Value.int IntKind.i64 0,
 Value.string x_1, Value.string x_2, Value.string x_3, Value.string x_4,
 Value.int IntKind.i64 x_5, Value.int IntKind.i64 x_6, Value.string x_7,
 Value.slice p_1 n_4 c, Value.string x_8]
 68)
 n_6 w1_1 →
 S w1_1 ∧
 ∃ (base : Nat),
 ∃ (xs : List Value),
 ∃ (news : List Value),
 w1_1.ownsRow base 68 12 (Value.slice (some (Addr.mk n_5 0 none)) 0 0) 0 xs ∧
 news.length = n * 12 ∧
 SrcP w1_1 p news ∧
 0 + n ≤ 9223372036854775807 ∧
 (0 + n) * 160 ≤ 140737488355328 ∧
 base ≤ w1_1.heap.size ∧
 ∀ (p' : Option Addr) (c' : Nat) (w' : World),
 w'.ownsRow base 68 12 (Value.slice p' (0 + n) c') (0 + n) (xs ++ news) →
 w1_1.grownBy w' (Value.slice (some (Addr.mk n_5 0 none)) 0 0).ownBlock →
 (0 + n ≤ 0 → p' = some (Addr.mk n_5 0 none) ∧ c' = 0) →
 S w' ∧
 ∃ (base : Nat),
 ∃ (xs : List Value),
 ∃ (news : List Value),
 w'.ownsRow base 68 12 (Value.slice p' (0 + n) c') (0 + n) xs ∧
 news.length = 12 ∧
 SrcP w' (some (Addr.mk n_6 0 none)) news ∧
 0 + n + 1 ≤ 9223372036854775807 ∧
 (0 + n + 1) * 160 ≤ 140737488355328 ∧
 base ≤ w'.heap.size ∧
 ∀ (p'_1 : Option Addr) (c'_1 : Nat) (w'_1 : World),
 w'_1.ownsRow base 68 12 (Value.slice p'_1 (0 + n + 1) c'_1)
 (0 + n + 1) (xs ++ news) →
 w'.grownBy w'_1 (Value.slice p' (0 + n) c').ownBlock →
 (0 + n + 1 ≤ c' → p'_1 = p' ∧ c'_1 = c') →
 ((∃ (u : Value),
 w'_1.cell? (Addr.mk n_1 (0 + 2) none) = some u) ∧
 w'_1.frozen? (Addr.mk n_1 (0 + 2) none) = false) ∧
 ∀ (w1 : World),
 PutB w'_1 n_1 (0 + 2) [Value.slice p'_1 (0 + n + 1) c'_1]
 w1 →
 KeptL [n_3, n_2] W w1 ∧
 ∃ (x : ByteArray),
 ∃ (x_9 : Int),
 ∃ (p : Option Addr),
 ∃ (n : Nat),
 ∃ (c : Nat),
 AtL w1 n_1 0
 [Value.string x, Value.int IntKind.i64 x_9,
 Value.slice p n c] ∧
 ∀ (W : World),
 Loc w.heap.size
 [Blk.mk n_3 62
 [Value.string x, Value.int IntKind.i64 x_9,
 Value.slice p n c]
 (wrM 0),
 Blk.mk n_2 32
 [Value.string fu, Value.string fs,
 Value.string tu, Value.string ts,
 Value.int IntKind.i64 mn,
 Value.int IntKind.i64 d, Value.string sj,
 Value.slice hp hn hc, Value.string bd]
 0]
 w1 W →
 R
 (Ending.returned
 (Value.agg
 #[Value.string x, Value.int IntKind.i64 x_9,
 Value.slice p n c]))
 W) ∧
 ∀ (n_5 : Nat) (w1 : World),
 NewB W
 (Obj.cells
 #[Value.int IntKind.i64 x, Value.int IntKind.i64 now, Value.int IntKind.i64 0,
 Value.string x_1, Value.string x_2, Value.string x_3, Value.string x_4,
 Value.int IntKind.i64 x_5, Value.int IntKind.i64 x_6, Value.string x_7,
 Value.slice p_1 n_4 c, Value.string x_8]
 68)
 n_5 w1 →
 S w1 ∧
 ∀ (n_6 : Nat) (w1_1 : World),
 NewB w1 (Obj.cells #[] 68) n_6 w1_1 →
 S w1_1 ∧
 ∃ (base : Nat),
 ∃ (xs : List Value),
 ∃ (news : List Value),
 w1_1.ownsRow base 68 12 (Value.slice (some (Addr.mk n_6 0 none)) 0 0) 0 xs ∧
 news.length = n * 12 ∧
 SrcP w1_1 p news ∧
 0 + n ≤ 9223372036854775807 ∧
 (0 + n) * 160 ≤ 140737488355328 ∧
 base ≤ w1_1.heap.size ∧
 ∀ (p' : Option Addr) (c' : Nat) (w' : World),
 w'.ownsRow base 68 12 (Value.slice p' (0 + n) c') (0 + n) (xs ++ news) →
 w1_1.grownBy w' (Value.slice (some (Addr.mk n_6 0 none)) 0 0).ownBlock →
 (0 + n ≤ 0 → p' = some (Addr.mk n_6 0 none) ∧ c' = 0) →
 S w' ∧
 ∃ (base : Nat),
 ∃ (xs : List Value),
 ∃ (news : List Value),
 w'.ownsRow base 68 12 (Value.slice p' (0 + n) c') (0 + n) xs ∧
 news.length = 12 ∧
 SrcP w' (some (Addr.mk n_5 0 none)) news ∧
 0 + n + 1 ≤ 9223372036854775807 ∧
 (0 + n + 1) * 160 ≤ 140737488355328 ∧
 base ≤ w'.heap.size ∧
 ∀ (p'_1 : Option Addr) (c'_1 : Nat) (w'_1 : World),
 w'_1.ownsRow base 68 12 (Value.slice p'_1 (0 + n + 1) c'_1)
 (0 + n + 1) (xs ++ news) →
 w'.grownBy w'_1 (Value.slice p' (0 + n) c').ownBlock →
 (0 + n + 1 ≤ c' → p'_1 = p' ∧ c'_1 = c') →
 ((∃ (u : Value),
 w'_1.cell? (Addr.mk n_1 (0 + 2) none) = some u) ∧
 w'_1.frozen? (Addr.mk n_1 (0 + 2) none) = false) ∧
 ∀ (w1 : World),
 PutB w'_1 n_1 (0 + 2) [Value.slice p'_1 (0 + n + 1) c'_1] w1 →
 KeptL [n_3, n_2] W w1 ∧
 ∃ (x : ByteArray),
 ∃ (x_9 : Int),
 ∃ (p : Option Addr),
 ∃ (n : Nat),
 ∃ (c : Nat),
 AtL w1 n_1 0
 [Value.string x, Value.int IntKind.i64 x_9,
 Value.slice p n c] ∧
 ∀ (W : World),
 Loc w.heap.size
 [Blk.mk n_3 62
 [Value.string x, Value.int IntKind.i64 x_9,
 Value.slice p n c]
 (wrM 0),
 Blk.mk n_2 32
 [Value.string fu, Value.string fs,
 Value.string tu, Value.string ts,
 Value.int IntKind.i64 mn,
 Value.int IntKind.i64 d, Value.string sj,
 Value.slice hp hn hc, Value.string bd]
 0]
 w1 W →
 R
 (Ending.returned
 (Value.agg
 #[Value.string x, Value.int IntKind.i64 x_9,
 Value.slice p n c]))
 W
theorem vc_rput (s : ByteArray) (next : Int) (p : Option Addr) (n : Nat) (c : Nat) (fu : ByteArray) (fs : ByteArray) (tu : ByteArray) (ts : ByteArray) (mn : Int) (d : Int) (sj : ByteArray) (hp : Option Addr) (hn : Nat) (hc : Nat) (bd : ByteArray) (now : Int) (w : World) (R : Ending → World → Prop) (h : VC_rput s next p n c fu fs tu ts mn d sj hp hn hc bd now w R) : Calls Tryz.prog 99 ([Value.agg
    #[Value.string s, Value.int IntKind.i64 next, Value.slice p n c],
  Value.agg
    #[Value.string fu, Value.string fs, Value.string tu, Value.string ts, Value.int IntKind.i64 mn,
      Value.int IntKind.i64 d, Value.string sj, Value.slice hp hn hc, Value.string bd],
  Value.int IntKind.i64 now] : List Value).toArray w R := by
  have e : execR2 { P := Tryz.prog, loops := [], pur := purM, tails := [(2, 0)], joins := [], boxes := [] } Tryz.f99.results.toList R (Tryz.f99.body.getD .skip) (initF [Value.agg
    #[Value.string s, Value.int IntKind.i64 next, Value.slice p n c],
  Value.agg
    #[Value.string fu, Value.string fs, Value.string tu, Value.string ts, Value.int IntKind.i64 mn,
      Value.int IntKind.i64 d, Value.string sj, Value.slice hp hn hc, Value.string bd],
  Value.int IntKind.i64
    now] (Tryz.f99.ntmps - ([Value.agg #[Value.string s, Value.int IntKind.i64 next, Value.slice p n c],
  Value.agg
    #[Value.string fu, Value.string fs, Value.string tu, Value.string ts, Value.int IntKind.i64 mn,
      Value.int IntKind.i64 d, Value.string sj, Value.slice hp hn hc, Value.string bd],
  Value.int IntKind.i64
    now] : List Value).length)) w = VC_rput s next p n c fu fs tu ts mn d sj hp hn hc bd now w R := by kernel_rfl
  have hb : Tryz.f99.body = some (Tryz.f99.body.getD .skip) := by kernel_rfl
  exact calls_of_exec2' (P := Tryz.prog) (fn := Tryz.f99) (c := Tryz.f99.body.getD .skip) (args := [Value.agg
    #[Value.string s, Value.int IntKind.i64 next, Value.slice p n c],
  Value.agg
    #[Value.string fu, Value.string fs, Value.string tu, Value.string ts, Value.int IntKind.i64 mn,
      Value.int IntKind.i64 d, Value.string sj, Value.slice hp hn hc, Value.string bd],
  Value.int IntKind.i64 now]) (w := w) (R := R) purM_ok Tryz.func99 hb e h

def VC_radd (s : ByteArray) (next : Int) (p : Option Addr) (n : Nat) (c : Nat) (fu : ByteArray) (fs : ByteArray) (tu : ByteArray) (ts : ByteArray) (mn : Int) (d : Int) (sj : ByteArray) (hp : Option Addr) (hn : Nat) (hc : Nat) (bd : ByteArray) (now : Int) (w : World) (R : Ending → World → Prop) : Prop :=
 ∀ (n_1 n_2 n_3 : Nat) (W : World),
 Loc w.heap.size
 [Blk.mk n_3 62 [Value.string (ByteArray.mk #[]), Value.int IntKind.i64 0, Value.slice none 0 0] 2,
 Blk.mk n_2 32
 [Value.string fu, Value.string fs, Value.string tu, Value.string ts, Value.int IntKind.i64 mn,
 Value.int IntKind.i64 d, Value.string sj, Value.slice hp hn hc, Value.string bd]
 2,
 Blk.mk n_1 62 [Value.string s, Value.int IntKind.i64 next, Value.slice p n c] 2]
 w W →
 CallsS Tryz.prog 43
 #[Value.agg
 #[Value.string fu, Value.string fs, Value.string tu, Value.string ts, Value.int IntKind.i64 mn,
 Value.int IntKind.i64 d, Value.string sj, Value.slice hp hn hc, Value.string bd]]
 W fun (e : Ending) (w' : World) =>
 ∃ (x : Int),
 e = Ending.returned (Value.int IntKind.i64 x) ∧
 KeptL [n_3, n_2, n_1] W w' ∧
 bsp (x != 0)
 (∀ (W : World),
 Loc w.heap.size
 [Blk.mk n_3 62 [Value.string (ByteArray.mk #[]), Value.int IntKind.i64 0, Value.slice none 0 0] 0,
 Blk.mk n_2 32
 [Value.string fu, Value.string fs, Value.string tu, Value.string ts, Value.int IntKind.i64 mn,
 Value.int IntKind.i64 d, Value.string sj, Value.slice hp hn hc, Value.string bd]
 0,
 Blk.mk n_1 62 [Value.string s, Value.int IntKind.i64 next, Value.slice p n c] 0]
 w' W →
 ∃ (S : World → Prop),
 S W ∧
 ∃ (x : ByteArray),
 ∃ (x_1 : Int),
 ∃ (p : Option Addr),
 ∃ (n : Nat),
 ∃ (c : Nat),
 (∀ (w' : World), S w' → AtL w' n_1 0 [Value.string x, Value.int IntKind.i64 x_1, Value.slice p n c]) ∧
 ∃ (x_2 : ByteArray),
 ∃ (x_3 : ByteArray),
 ∃ (x_4 : ByteArray),
 ∃ (x_5 : ByteArray),
 ∃ (x_6 : Int),
 ∃ (x_7 : Int),
 ∃ (x_8 : ByteArray),
 ∃ (p_1 : Option Addr),
 ∃ (n_4 : Nat),
 ∃ (c_1 : Nat),
 ∃ (x_9 : ByteArray),
 (∀ (w' : World),
 S w' →
 AtL w' n_2 0
 [Value.string x_2, Value.string x_3, Value.string x_4, Value.string x_5,
 Value.int IntKind.i64 x_6, Value.int IntKind.i64 x_7, Value.string x_8,
 Value.slice p_1 n_4 c_1, Value.string x_9]) ∧
 CallsS Tryz.prog 43
 #[Value.agg
 #[Value.string x_2, Value.string x_3, Value.string x_4, Value.string x_5,
 Value.int IntKind.i64 x_6, Value.int IntKind.i64 x_7, Value.string x_8,
 Value.slice p_1 n_4 c_1, Value.string x_9]]
 W fun (e : Ending) (w' : World) =>
 ∃ (x_10 : Int),
 e = Ending.returned (Value.int IntKind.i64 x_10) ∧
 S w' ∧
 WrL w' n_3 0 3 ∧
 ∀ (w1 : World),
 PutB w' n_3 0 [Value.string x, Value.int IntKind.i64 x_1, Value.slice p n c] w1 →
 KeptL [n_2, n_1] W w1 ∧
 ∃ (x : ByteArray),
 ∃ (x_11 : Int),
 ∃ (p : Option Addr),
 ∃ (n : Nat),
 ∃ (c : Nat),
 AtL w1 n_3 0 [Value.string x, Value.int IntKind.i64 x_11, Value.slice p n c] ∧
 R
 (Ending.returned
 (Value.tuple
 #[Value.agg
 #[Value.string x, Value.int IntKind.i64 x_11, Value.slice p n c],
 Value.int IntKind.i64 0, Value.int IntKind.i64 x_10]))
 w1)
 (bsp (!minB now)
 (∀ (W : World),
 Loc w.heap.size
 [Blk.mk n_3 62 [Value.string s, Value.int IntKind.i64 next, Value.slice p n c] (wrM 0),
 Blk.mk n_2 32
 [Value.string fu, Value.string fs, Value.string tu, Value.string ts, Value.int IntKind.i64 mn,
 Value.int IntKind.i64 d, Value.string sj, Value.slice hp hn hc, Value.string bd]
 0,
 Blk.mk n_1 62 [Value.string s, Value.int IntKind.i64 next, Value.slice p n c] 0]
 w' W →
 R
 (Ending.returned
 (Value.tuple
 #[Value.agg #[Value.string s, Value.int IntKind.i64 next, Value.slice p n c], Value.int IntKind.i64 0,
 Value.int IntKind.i64 13]))
 W)
 (bsp (decide ((↑n : Int) ≥ 1024))
 (∀ (W : World),
 Loc w.heap.size
 [Blk.mk n_3 62 [Value.string s, Value.int IntKind.i64 next, Value.slice p n c] (wrM 0),
 Blk.mk n_2 32
 [Value.string fu, Value.string fs, Value.string tu, Value.string ts, Value.int IntKind.i64 mn,
 Value.int IntKind.i64 d, Value.string sj, Value.slice hp hn hc, Value.string bd]
 0,
 Blk.mk n_1 62 [Value.string s, Value.int IntKind.i64 next, Value.slice p n c] 0]
 w' W →
 R
 (Ending.returned
 (Value.tuple
 #[Value.agg #[Value.string s, Value.int IntKind.i64 next, Value.slice p n c], Value.int IntKind.i64 0,
 Value.int IntKind.i64 9]))
 W)
 (CallsS Tryz.prog 99
 #[Value.agg #[Value.string s, Value.int IntKind.i64 next, Value.slice p n c],
 Value.agg
 #[Value.string fu, Value.string fs, Value.string tu, Value.string ts, Value.int IntKind.i64 mn,
 Value.int IntKind.i64 d, Value.string sj, Value.slice hp hn hc, Value.string bd],
 Value.int IntKind.i64 now]
 w' fun (e : Ending) (w'_1 : World) =>
 ∃ (x : ByteArray),
 ∃ (x_1 : Int),
 ∃ (p : Option Addr),
 ∃ (n : Nat),
 ∃ (c : Nat),
 e = Ending.returned (Value.agg #[Value.string x, Value.int IntKind.i64 x_1, Value.slice p n c]) ∧
 KeptL [n_3, n_2, n_1] w' w'_1 ∧
 ∀ (W : World),
 Loc w.heap.size
 [Blk.mk n_3 62 [Value.string (ByteArray.mk #[]), Value.int IntKind.i64 0, Value.slice none 0 0] 0,
 Blk.mk n_2 32
 [Value.string fu, Value.string fs, Value.string tu, Value.string ts, Value.int IntKind.i64 mn,
 Value.int IntKind.i64 d, Value.string sj, Value.slice hp hn hc, Value.string bd]
 0,
 Blk.mk n_1 62 [Value.string x, Value.int IntKind.i64 x_1, Value.slice p n c] (wrM 0)]
 w'_1 W →
 ∃ (S : World → Prop),
 S W ∧
 ∃ (x : ByteArray),
 ∃ (x_2 : Int),
 ∃ (p : Option Addr),
 ∃ (n : Nat),
 ∃ (c : Nat),
 (∀ (w' : World),
 S w' → AtL w' n_1 0 [Value.string x, Value.int IntKind.i64 x_2, Value.slice p n c]) ∧
 ∃ (x_3 : Int),
 (∀ (w' : World),
 S w' → w'.cell? (Addr.mk n_1 (0 + 1) none) = some (Value.int IntKind.i64 x_3)) ∧
 WrL W n_3 0 3 ∧
 ∀ (w1 : World),
 PutB W n_3 0 [Value.string x, Value.int IntKind.i64 x_2, Value.slice p n c] w1 →
 S w1 ∧
 KeptL [n_2, n_1] W w1 ∧
 ∃ (x : ByteArray),
 ∃ (x_4 : Int),
 ∃ (p : Option Addr),
 ∃ (n : Nat),
 ∃ (c : Nat),
 AtL w1 n_3 0 [Value.string x, Value.int IntKind.i64 x_4, Value.slice p n c] ∧
 R
 (Ending.returned
 (Value.tuple
 #[Value.agg #[Value.string x, Value.int IntKind.i64 x_4, Value.slice p n c],
 Value.int IntKind.i64 x_3, Value.int IntKind.i64 0]))
 w1)))
theorem vc_radd (s : ByteArray) (next : Int) (p : Option Addr) (n : Nat) (c : Nat) (fu : ByteArray) (fs : ByteArray) (tu : ByteArray) (ts : ByteArray) (mn : Int) (d : Int) (sj : ByteArray) (hp : Option Addr) (hn : Nat) (hc : Nat) (bd : ByteArray) (now : Int) (w : World) (R : Ending → World → Prop) (h : VC_radd s next p n c fu fs tu ts mn d sj hp hn hc bd now w R) : Calls Tryz.prog 58 ([Value.agg
    #[Value.string s, Value.int IntKind.i64 next, Value.slice p n c],
  Value.agg
    #[Value.string fu, Value.string fs, Value.string tu, Value.string ts, Value.int IntKind.i64 mn,
      Value.int IntKind.i64 d, Value.string sj, Value.slice hp hn hc, Value.string bd],
  Value.int IntKind.i64 now] : List Value).toArray w R := by
  have e : execR2 { P := Tryz.prog, loops := [], pur := purM, tails := [(2, 2), (8, 3)], joins := [], boxes := [] } Tryz.f58.results.toList R (Tryz.f58.body.getD .skip) (initF [Value.agg
    #[Value.string s, Value.int IntKind.i64 next, Value.slice p n c],
  Value.agg
    #[Value.string fu, Value.string fs, Value.string tu, Value.string ts, Value.int IntKind.i64 mn,
      Value.int IntKind.i64 d, Value.string sj, Value.slice hp hn hc, Value.string bd],
  Value.int IntKind.i64
    now] (Tryz.f58.ntmps - ([Value.agg #[Value.string s, Value.int IntKind.i64 next, Value.slice p n c],
  Value.agg
    #[Value.string fu, Value.string fs, Value.string tu, Value.string ts, Value.int IntKind.i64 mn,
      Value.int IntKind.i64 d, Value.string sj, Value.slice hp hn hc, Value.string bd],
  Value.int IntKind.i64
    now] : List Value).length)) w = VC_radd s next p n c fu fs tu ts mn d sj hp hn hc bd now w R := by kernel_rfl
  have hb : Tryz.f58.body = some (Tryz.f58.body.getD .skip) := by kernel_rfl
  exact calls_of_exec2' (P := Tryz.prog) (fn := Tryz.f58) (c := Tryz.f58.body.getD .skip) (args := [Value.agg
    #[Value.string s, Value.int IntKind.i64 next, Value.slice p n c],
  Value.agg
    #[Value.string fu, Value.string fs, Value.string tu, Value.string ts, Value.int IntKind.i64 mn,
      Value.int IntKind.i64 d, Value.string sj, Value.slice hp hn hc, Value.string bd],
  Value.int IntKind.i64 now]) (w := w) (R := R) purM_ok Tryz.func58 hb e h

def VC_rdue (s : ByteArray) (next : Int) (p : Option Addr) (n : Nat) (c : Nat) (now : Int) (w : World) (R : Ending → World → Prop) : Prop :=
 ∀ (n_1 : Nat) (W : World),
 Loc w.heap.size [Blk.mk n_1 62 [Value.string s, Value.int IntKind.i64 next, Value.slice p n c] 2] w W →
 ∃ (I : List Value → World → Prop),
 ∃ (m : List Value → World → Nat),
 I [Value.int IntKind.i64 0, Value.slice none 0 0] W ∧
 ∀ (x : Int) (p_1 : Option Addr) (n_2 c_1 : Nat) (w' : World),
 I [Value.int IntKind.i64 x, Value.slice p_1 n_2 c_1] w' →
 Loc w.heap.size [Blk.mk n_1 62 [Value.string s, Value.int IntKind.i64 next, Value.slice p n c] 0] w' w' →
 bsp (decide (x < (↑n : Int)))
 (nn true p fun (b o : Nat) =>
 (0 ≤ x ∧ x < (↑n : Int)) ∧
 ∃ (x_1 : Int),
 w'.cell? (Addr.mk b (o + x.toNat * 12 + 1) none) = some (Value.int IntKind.i64 x_1) ∧
 bsp (decide (x_1 > now))
 (I [Value.int IntKind.i64 (IntKind.i64.wrap (x + 1)), Value.slice p_1 n_2 c_1] w' ∧
 m [Value.int IntKind.i64 (IntKind.i64.wrap (x + 1)), Value.slice p_1 n_2 c_1] w' <
 m [Value.int IntKind.i64 x, Value.slice p_1 n_2 c_1] w')
 (∃ (I_1 : List Value → World → Prop),
 ∃ (m_1 : List Value → World → Nat),
 I_1 [Value.int IntKind.i64 (↑n_2 : Int)] w' ∧
 ∀ (x_2 : Int) (w'_1 : World),
 I_1 [Value.int IntKind.i64 x_2] w'_1 →
 Loc w.heap.size [Blk.mk n_1 62 [Value.string s, Value.int IntKind.i64 next, Value.slice p n c] 0]
 w'_1 w'_1 →
 nn (decide (x_2 > 0)) p_1 fun (b o : Nat) =>
 gimp (decide (x_2 > 0))
 (0 ≤ IntKind.i64.wrap (x_2 - 1) ∧ IntKind.i64.wrap (x_2 - 1) < (↑n_2 : Int)) ∧
 ∃ (x_3 : Int),
 gimp (decide (x_2 > 0))
 (∀ (W : World),
 Loc w.heap.size
 [Blk.mk n_1 62 [Value.string s, Value.int IntKind.i64 next, Value.slice p n c] 0] w'_1 W →
 W.cell? (Addr.mk b (o + (IntKind.i64.wrap (x_2 - 1)).toNat * 12 + 1) none) =
 some (Value.int IntKind.i64 x_3)) ∧
 ∃ (p_2 : Option Addr),
 ∃ (n_3 : Nat),
 ∃ (c_2 : Nat),
 gimp (decide (x_2 > 0))
 (∀ (W : World),
 Loc w.heap.size
 [Blk.mk n_1 62 [Value.string s, Value.int IntKind.i64 next, Value.slice p n c] 0] w'_1
 W →
 W.cell? (Addr.mk n_1 (0 + 2) none) = some (Value.slice p_2 n_3 c_2)) ∧
 nn (decide (x_2 > 0)) p_2 fun (b o : Nat) =>
 gimp (decide (x_2 > 0)) (0 ≤ x ∧ x < (↑n_3 : Int)) ∧
 ∃ (x_4 : Int),
 gimp (decide (x_2 > 0))
 (∀ (W : World),
 Loc w.heap.size
 [Blk.mk n_1 62 [Value.string s, Value.int IntKind.i64 next, Value.slice p n c] 0]
 w'_1 W →
 W.cell? (Addr.mk b (o + x.toNat * 12 + 1) none) = some (Value.int IntKind.i64 x_4)) ∧
 bsp (decide (x_2 > 0) && decide (x_3 > x_4))
 (∀ (W : World),
 Loc w.heap.size
 [Blk.mk n_1 62 [Value.string s, Value.int IntKind.i64 next, Value.slice p n c] 0]
 w'_1 W →
 I_1 [Value.int IntKind.i64 (IntKind.i64.wrap (x_2 - 1))] W ∧
 m_1 [Value.int IntKind.i64 (IntKind.i64.wrap (x_2 - 1))] W <
 m_1 [Value.int IntKind.i64 x_2] w'_1)
 (∀ (n_4 : Nat),
 (0 ≤ x_2 ∧ x_2 ≤ (↑c_1 : Int)) ∧
 ∀ (W : World),
 Loc w.heap.size
 [Blk.mk n_1 62 [Value.string s, Value.int IntKind.i64 next, Value.slice p n c] 0,
 Blk.mk n_4 68 [] 2]
 w'_1 W →
 ∃ (base : Nat),
 ∃ (xs : List Value),
 ∃ (news : List Value),
 W.ownsRow base 68 12 (Value.slice (some (Addr.mk n_4 0 none)) 0 0) 0 xs ∧
 news.length = x_2.toNat * 12 ∧
 SrcP W p_1 news ∧
 0 + x_2.toNat ≤ 9223372036854775807 ∧
 (0 + x_2.toNat) * 160 ≤ 140737488355328 ∧
 base ≤ W.heap.size ∧
 ∀ (p' : Option Addr) (c' : Nat) (w'_2 : World),
 w'_2.ownsRow base 68 12 (Value.slice p' (0 + x_2.toNat) c')
 (0 + x_2.toNat) (xs ++ news) →
 W.grownBy w'_2 (Value.slice (some (Addr.mk n_4 0 none)) 0 0).ownBlock →
 (0 + x_2.toNat ≤ 0 → p' = some (Addr.mk n_4 0 none) ∧ c' = 0) →
 KeptL [n_1] W w'_2 ∧
 nn true p fun (b o : Nat) =>
 (0 ≤ x ∧ x < (↑n : Int)) ∧
 ∃ (x_5 : Int),
 ∃ (x_6 : Int),
 ∃ (x_7 : Int),
 ∃ (x_8 : ByteArray),
 ∃ (x_9 : ByteArray),
 ∃ (x_10 : ByteArray),
 ∃ (x_11 : ByteArray),
 ∃ (x_12 : Int),
 ∃ (x_13 : Int),
 ∃ (x_14 : ByteArray),
 ∃ (p_3 : Option Addr),
 ∃ (n_5 : Nat),
 ∃ (c_3 : Nat),
 ∃ (x_15 : ByteArray),
 AtL w'_2 b (o + x.toNat * 12)
 [Value.int IntKind.i64 x_5,
 Value.int IntKind.i64 x_6,
 Value.int IntKind.i64 x_7, Value.string x_8,
 Value.string x_9, Value.string x_10,
 Value.string x_11, Value.int IntKind.i64 x_12,
 Value.int IntKind.i64 x_13, Value.string x_14,
 Value.slice p_3 n_5 c_3, Value.string x_15] ∧
 ∀ (n_6 : Nat) (W : World),
 Loc w.heap.size
 [Blk.mk n_1 62
 [Value.string s, Value.int IntKind.i64 next,
 Value.slice p n c]
 0,
 Blk.mk n_6 68
 [Value.int IntKind.i64 x_5,
 Value.int IntKind.i64 x_6,
 Value.int IntKind.i64 x_7, Value.string x_8,
 Value.string x_9, Value.string x_10,
 Value.string x_11, Value.int IntKind.i64 x_12,
 Value.int IntKind.i64 x_13, Value.string x_14,
 Value.slice p_3 n_5 c_3, Value.string x_15]
 2]
 w'_2 W →
 ∃ (base : Nat),
 ∃ (xs : List Value),
 W.ownsRow base 68 12
 (Value.slice p' (0 + x_2.toNat) c')
 (0 + x_2.toNat) xs ∧
 0 + x_2.toNat + 1 ≤ 9223372036854775807 ∧
 (0 + x_2.toNat + 1) * 160 ≤ 140737488355328 ∧
 base ≤ W.heap.size ∧
 ∀ (p'_1 : Option Addr) (c'_1 : Nat)
 (w'_3 : World),
 w'_3.ownsRow base 68 12
 (Value.slice p'_1 (0 + x_2.toNat + 1)
 c'_1)
 (0 + x_2.toNat + 1)
 (xs ++
 [Value.int IntKind.i64 x_5,
 Value.int IntKind.i64 x_6,
 Value.int IntKind.i64 x_7,
 Value.string x_8, Value.string x_9,
 Value.string x_10, Value.string x_11,
 Value.int IntKind.i64 x_12,
 Value.int IntKind.i64 x_13,
 Value.string x_14,
 Value.slice p_3 n_5 c_3,
 Value.string x_15]) →
 W.grownBy w'_3
 (Value.slice p' (0 + x_2.toNat)
 c').ownBlock →
 (0 + x_2.toNat + 1 ≤ c' →
 p'_1 = p' ∧ c'_1 = c') →
 KeptL [n_1] W w'_3 ∧
 (0 ≤ x_2 ∧ x_2 ≤ (↑n_2 : Int)) ∧
 ∃ (base : Nat),
 ∃ (xs : List Value),
 ∃ (news : List Value),
 w'_3.ownsRow base 68 12
 (Value.slice p'_1
 (0 + x_2.toNat + 1) c'_1)
 (0 + x_2.toNat + 1) xs ∧
 news.length =
 (n_2 - x_2.toNat) * 12 ∧
 SrcP w'_3
 (slA p_1 c_1 x_2.toNat 12)
 news ∧
 0 + x_2.toNat + 1 +
 (n_2 - x_2.toNat) ≤
 9223372036854775807 ∧
 (0 + x_2.toNat + 1 +
 (n_2 - x_2.toNat)) *
 160 ≤
 140737488355328 ∧
 base ≤ w'_3.heap.size ∧
 ∀ (p' : Option Addr)
 (c' : Nat) (w'_4 : World),
 w'_4.ownsRow base 68 12
 (Value.slice p'
 (0 + x_2.toNat + 1 +
 (n_2 - x_2.toNat))
 c')
 (0 + x_2.toNat + 1 +
 (n_2 - x_2.toNat))
 (xs ++ news) →
 w'_3.grownBy w'_4
 (Value.slice p'_1
 (0 + x_2.toNat + 1)
 c'_1).ownBlock →
 (0 + x_2.toNat + 1 +
 (n_2 - x_2.toNat) ≤
 c'_1 →
 p' = p'_1 ∧ c' = c'_1) →
 KeptL [n_1] w'_3 w'_4 ∧
 I
 [Value.int IntKind.i64
 (IntKind.i64.wrap
 (x + 1)),
 Value.slice p'
 (0 + x_2.toNat + 1 +
 (n_2 - x_2.toNat))
 c']
 w'_4 ∧
 m
 [Value.int
 IntKind.i64
 (IntKind.i64.wrap
 (x + 1)),
 Value.slice p'
 (0 + x_2.toNat +
 1 +
 (n_2 - x_2.toNat))
 c']
 w'_4 <
 m
 [Value.int
 IntKind.i64 x,
 Value.slice p_1 n_2
 c_1]
 w')))
 (∃ (I : List Value → World → Prop),
 ∃ (m : List Value → World → Nat),
 I [Value.int IntKind.i64 0, Value.slice none 0 0] w' ∧
 ∀ (x : Int) (p_2 : Option Addr) (n_3 c_2 : Nat) (w' : World),
 I [Value.int IntKind.i64 x, Value.slice p_2 n_3 c_2] w' →
 Loc w.heap.size [Blk.mk n_1 62 [Value.string s, Value.int IntKind.i64 next, Value.slice p n c] 0] w' w' →
 bsp (decide (x < (↑n_2 : Int)))
 (nn true p_1 fun (b o : Nat) =>
 (0 ≤ x ∧ x < (↑n_2 : Int)) ∧
 ∃ (x_1 : Int),
 w'.cell? (Addr.mk b (o + x.toNat * 12) none) = some (Value.int IntKind.i64 x_1) ∧
 ∀ (n_4 : Nat) (W : World),
 Loc w.heap.size
 [Blk.mk n_1 62 [Value.string s, Value.int IntKind.i64 next, Value.slice p n c] 0,
 Blk.mk n_4 3 [Value.int IntKind.i64 x_1] 2]
 w' W →
 ∃ (base : Nat),
 ∃ (xs : List Value),
 W.ownsRow base 3 1 (Value.slice p_2 n_3 c_2) n_3 xs ∧
 n_3 + 1 ≤ 9223372036854775807 ∧
 (n_3 + 1) * 8 ≤ 140737488355328 ∧
 base ≤ W.heap.size ∧
 ∀ (p' : Option Addr) (c' : Nat) (w'_1 : World),
 w'_1.ownsRow base 3 1 (Value.slice p' (n_3 + 1) c') (n_3 + 1)
 (xs ++ [Value.int IntKind.i64 x_1]) →
 W.grownBy w'_1 (Value.slice p_2 n_3 c_2).ownBlock →
 (n_3 + 1 ≤ c_2 → p' = p_2 ∧ c' = c_2) →
 KeptL [n_1] W w'_1 ∧
 I [Value.int IntKind.i64 (IntKind.i64.wrap (x + 1)), Value.slice p' (n_3 + 1) c']
 w'_1 ∧
 m [Value.int IntKind.i64 (IntKind.i64.wrap (x + 1)), Value.slice p' (n_3 + 1) c']
 w'_1 <
 m [Value.int IntKind.i64 x, Value.slice p_2 n_3 c_2] w')
 (R (Ending.returned (Value.slice p_2 n_3 c_2)) w'))
theorem vc_rdue (s : ByteArray) (next : Int) (p : Option Addr) (n : Nat) (c : Nat) (now : Int) (w : World) (R : Ending → World → Prop) (h : VC_rdue s next p n c now w R) : Calls Tryz.prog 25 ([Value.agg
    #[Value.string s, Value.int IntKind.i64 next, Value.slice p n c],
  Value.int IntKind.i64 now] : List Value).toArray w R := by
  have e : execR2 { P := Tryz.prog, loops := [(3, [(6, Ck.int IntKind.i64), (5, Ck.slice)]), (7, [(7, Ck.int IntKind.i64)]), (14, [(10, Ck.int IntKind.i64), (9, Ck.slice)])], pur := purM, tails := [], joins := [], boxes := [] } Tryz.f25.results.toList R (Tryz.f25.body.getD .skip) (initF [Value.agg
    #[Value.string s, Value.int IntKind.i64 next, Value.slice p n c],
  Value.int IntKind.i64
    now] (Tryz.f25.ntmps - ([Value.agg #[Value.string s, Value.int IntKind.i64 next, Value.slice p n c],
  Value.int IntKind.i64 now] : List Value).length)) w = VC_rdue s next p n c now w R := by kernel_rfl
  have hb : Tryz.f25.body = some (Tryz.f25.body.getD .skip) := by kernel_rfl
  exact calls_of_exec2' (P := Tryz.prog) (fn := Tryz.f25) (c := Tryz.f25.body.getD .skip) (args := [Value.agg
    #[Value.string s, Value.int IntKind.i64 next, Value.slice p n c],
  Value.int IntKind.i64 now]) (w := w) (R := R) purM_ok Tryz.func25 hb e h

def VC_rdone (s : ByteArray) (next : Int) (p : Option Addr) (n : Nat) (c : Nat) (x : Int) (w : World) (R : Ending → World → Prop) : Prop :=
 ∀ (n_1 n_2 : Nat) (W : World),
 Loc w.heap.size
 [Blk.mk n_2 62 [Value.string (ByteArray.mk #[]), Value.int IntKind.i64 0, Value.slice none 0 0] 2,
 Blk.mk n_1 62 [Value.string s, Value.int IntKind.i64 next, Value.slice p n c] 2]
 w W →
 CallsS Tryz.prog 26
 #[Value.agg #[Value.string s, Value.int IntKind.i64 next, Value.slice p n c], Value.int IntKind.i64 x] W
 fun (e : Ending) (w' : World) =>
 ∃ (x : Int),
 e = Ending.returned (Value.int IntKind.i64 x) ∧
 KeptL [n_2, n_1] W w' ∧
 bsp (decide (x < 0))
 (∀ (W : World),
 Loc w.heap.size
 [Blk.mk n_2 62 [Value.string s, Value.int IntKind.i64 next, Value.slice p n c] (wrM 0),
 Blk.mk n_1 62 [Value.string s, Value.int IntKind.i64 next, Value.slice p n c] 0]
 w' W →
 R
 (Ending.returned
 (Value.tuple
 #[Value.agg #[Value.string s, Value.int IntKind.i64 next, Value.slice p n c], Value.int IntKind.i64 8]))
 W)
 (∀ (W : World),
 Loc w.heap.size
 [Blk.mk n_2 62 [Value.string (ByteArray.mk #[]), Value.int IntKind.i64 0, Value.slice none 0 0] 0,
 Blk.mk n_1 62 [Value.string s, Value.int IntKind.i64 next, Value.slice p n c] 0]
 w' W →
 ∃ (S : World → Prop),
 S W ∧
 ∃ (p : Option Addr),
 ∃ (n : Nat),
 ∃ (c : Nat),
 (∀ (w' : World), S w' → w'.cell? (Addr.mk n_1 (0 + 2) none) = some (Value.slice p n c)) ∧
 (0 ≤ x ∧ x ≤ (↑c : Int)) ∧
 ∃ (p_1 : Option Addr),
 ∃ (n : Nat),
 ∃ (c : Nat),
 (∀ (w' : World), S w' → w'.cell? (Addr.mk n_1 (0 + 2) none) = some (Value.slice p_1 n c)) ∧
 (0 ≤ IntKind.i64.wrap (x + 1) ∧ IntKind.i64.wrap (x + 1) ≤ (↑n : Int)) ∧
 ∀ (n_3 : Nat) (w1 : World),
 NewB W (Obj.cells #[] 68) n_3 w1 →
 S w1 ∧
 ∃ (base : Nat),
 ∃ (xs : List Value),
 ∃ (news : List Value),
 w1.ownsRow base 68 12 (Value.slice (some (Addr.mk n_3 0 none)) 0 0) 0 xs ∧
 news.length = x.toNat * 12 ∧
 SrcP w1 p news ∧
 0 + x.toNat ≤ 9223372036854775807 ∧
 (0 + x.toNat) * 160 ≤ 140737488355328 ∧
 base ≤ w1.heap.size ∧
 ∀ (p' : Option Addr) (c' : Nat) (w' : World),
 w'.ownsRow base 68 12 (Value.slice p' (0 + x.toNat) c') (0 + x.toNat) (xs ++ news) →
 w1.grownBy w' (Value.slice (some (Addr.mk n_3 0 none)) 0 0).ownBlock →
 (0 + x.toNat ≤ 0 → p' = some (Addr.mk n_3 0 none) ∧ c' = 0) →
 S w' ∧
 ∃ (base : Nat),
 ∃ (xs : List Value),
 ∃ (news : List Value),
 w'.ownsRow base 68 12 (Value.slice p' (0 + x.toNat) c') (0 + x.toNat) xs ∧
 news.length = (n - (IntKind.i64.wrap (x + 1)).toNat) * 12 ∧
 SrcP w' (slA p_1 c (IntKind.i64.wrap (x + 1)).toNat 12) news ∧
 0 + x.toNat + (n - (IntKind.i64.wrap (x + 1)).toNat) ≤ 9223372036854775807 ∧
 (0 + x.toNat + (n - (IntKind.i64.wrap (x + 1)).toNat)) * 160 ≤
 140737488355328 ∧
 base ≤ w'.heap.size ∧
 ∀ (p'_1 : Option Addr) (c'_1 : Nat) (w'_1 : World),
 w'_1.ownsRow base 68 12
 (Value.slice p'_1
 (0 + x.toNat + (n - (IntKind.i64.wrap (x + 1)).toNat)) c'_1)
 (0 + x.toNat + (n - (IntKind.i64.wrap (x + 1)).toNat)) (xs ++ news) →
 w'.grownBy w'_1 (Value.slice p' (0 + x.toNat) c').ownBlock →
 (0 + x.toNat + (n - (IntKind.i64.wrap (x + 1)).toNat) ≤ c' →
 p'_1 = p' ∧ c'_1 = c') →
 ((∃ (u : Value), w'_1.cell? (Addr.mk n_1 (0 + 2) none) = some u) ∧
 w'_1.frozen? (Addr.mk n_1 (0 + 2) none) = false) ∧
 ∀ (w1 : World),
 PutB w'_1 n_1 (0 + 2)
 [Value.slice p'_1
 (0 + x.toNat + (n - (IntKind.i64.wrap (x + 1)).toNat)) c'_1]
 w1 →
 KeptL [n_2] W w1 ∧
 ∃ (x : ByteArray),
 ∃ (x_1 : Int),
 ∃ (p : Option Addr),
 ∃ (n : Nat),
 ∃ (c : Nat),
 AtL w1 n_1 0
 [Value.string x, Value.int IntKind.i64 x_1,
 Value.slice p n c] ∧
 ∀ (W : World),
 Loc w.heap.size
 [Blk.mk n_2 62
 [Value.string x, Value.int IntKind.i64 x_1,
 Value.slice p n c]
 (wrM 0)]
 w1 W →
 R
 (Ending.returned
 (Value.tuple
 #[Value.agg
 #[Value.string x, Value.int IntKind.i64 x_1,
 Value.slice p n c],
 Value.int IntKind.i64 0]))
 W)
theorem vc_rdone (s : ByteArray) (next : Int) (p : Option Addr) (n : Nat) (c : Nat) (x : Int) (w : World) (R : Ending → World → Prop) (h : VC_rdone s next p n c x w R) : Calls Tryz.prog 59 ([Value.agg
    #[Value.string s, Value.int IntKind.i64 next, Value.slice p n c],
  Value.int IntKind.i64 x] : List Value).toArray w R := by
  have e : execR2 { P := Tryz.prog, loops := [], pur := purM, tails := [(4, 0)], joins := [], boxes := [] } Tryz.f59.results.toList R (Tryz.f59.body.getD .skip) (initF [Value.agg
    #[Value.string s, Value.int IntKind.i64 next, Value.slice p n c],
  Value.int IntKind.i64
    x] (Tryz.f59.ntmps - ([Value.agg #[Value.string s, Value.int IntKind.i64 next, Value.slice p n c],
  Value.int IntKind.i64 x] : List Value).length)) w = VC_rdone s next p n c x w R := by kernel_rfl
  have hb : Tryz.f59.body = some (Tryz.f59.body.getD .skip) := by kernel_rfl
  exact calls_of_exec2' (P := Tryz.prog) (fn := Tryz.f59) (c := Tryz.f59.body.getD .skip) (args := [Value.agg
    #[Value.string s, Value.int IntKind.i64 next, Value.slice p n c],
  Value.int IntKind.i64 x]) (w := w) (R := R) purM_ok Tryz.func59 hb e h

def VC_rfail (s : ByteArray) (next : Int) (p : Option Addr) (n : Nat) (c : Nat) (x : Int) (now : Int) (code : Int) (fin : Bool) (w : World) (R : Ending → World → Prop) : Prop :=
 ∀ (n_1 n_2 : Nat) (W : World),
 Loc w.heap.size
 [Blk.mk n_2 62 [Value.string (ByteArray.mk #[]), Value.int IntKind.i64 0, Value.slice none 0 0] 2,
 Blk.mk n_1 62 [Value.string s, Value.int IntKind.i64 next, Value.slice p n c] 2]
 w W →
 CallsS Tryz.prog 26
 #[Value.agg #[Value.string s, Value.int IntKind.i64 next, Value.slice p n c], Value.int IntKind.i64 x] W
 fun (e : Ending) (w' : World) =>
 ∃ (x_1 : Int),
 e = Ending.returned (Value.int IntKind.i64 x_1) ∧
 KeptL [n_2, n_1] W w' ∧
 bsp (decide (x_1 < 0))
 (∀ (W : World),
 Loc w.heap.size
 [Blk.mk n_2 62 [Value.string s, Value.int IntKind.i64 next, Value.slice p n c] (wrM 0),
 Blk.mk n_1 62 [Value.string s, Value.int IntKind.i64 next, Value.slice p n c] 0]
 w' W →
 R
 (Ending.returned
 (Value.tuple
 #[Value.agg #[Value.string s, Value.int IntKind.i64 next, Value.slice p n c], Value.int IntKind.i64 0,
 Value.bool false, Value.int IntKind.i64 8]))
 W)
 (bsp (!minB now)
 (∀ (W : World),
 Loc w.heap.size
 [Blk.mk n_2 62 [Value.string s, Value.int IntKind.i64 next, Value.slice p n c] (wrM 0),
 Blk.mk n_1 62 [Value.string s, Value.int IntKind.i64 next, Value.slice p n c] 0]
 w' W →
 R
 (Ending.returned
 (Value.tuple
 #[Value.agg #[Value.string s, Value.int IntKind.i64 next, Value.slice p n c], Value.int IntKind.i64 0,
 Value.bool false, Value.int IntKind.i64 13]))
 W)
 (∀ (n_3 : Nat) (W : World),
 Loc w.heap.size
 [Blk.mk n_3 68 [] 2,
 Blk.mk n_2 62 [Value.string (ByteArray.mk #[]), Value.int IntKind.i64 0, Value.slice none 0 0] 0,
 Blk.mk n_1 62 [Value.string s, Value.int IntKind.i64 next, Value.slice p n c] 0]
 w' W →
 ∃ (base : Nat),
 ∃ (xs : List Value),
 ∃ (news : List Value),
 W.ownsRow base 68 12 (Value.slice (some (Addr.mk n_3 0 none)) 0 0) 0 xs ∧
 news.length = n * 12 ∧
 SrcP W p news ∧
 0 + n ≤ 9223372036854775807 ∧
 (0 + n) * 160 ≤ 140737488355328 ∧
 base ≤ W.heap.size ∧
 ∀ (p' : Option Addr) (c' : Nat) (w' : World),
 w'.ownsRow base 68 12 (Value.slice p' (0 + n) c') (0 + n) (xs ++ news) →
 W.grownBy w' (Value.slice (some (Addr.mk n_3 0 none)) 0 0).ownBlock →
 (0 + n ≤ 0 → p' = some (Addr.mk n_3 0 none) ∧ c' = 0) →
 KeptL [n_2, n_1] W w' ∧
 nn true p' fun (b o : Nat) =>
 (0 ≤ x_1 ∧ x_1 < (↑(0 + n) : Int)) ∧
 ∃ (x_2 : Int),
 ∃ (x_3 : Int),
 ∃ (x_4 : Int),
 ∃ (x_5 : ByteArray),
 ∃ (x_6 : ByteArray),
 ∃ (x_7 : ByteArray),
 ∃ (x_8 : ByteArray),
 ∃ (x_9 : Int),
 ∃ (x_10 : Int),
 ∃ (x_11 : ByteArray),
 ∃ (p : Option Addr),
 ∃ (n_4 : Nat),
 ∃ (c : Nat),
 ∃ (x_12 : ByteArray),
 (∀ (W : World),
 Loc w.heap.size
 [Blk.mk n_2 62
 [Value.string (ByteArray.mk #[]), Value.int IntKind.i64 0,
 Value.slice none 0 0]
 0,
 Blk.mk n_1 62
 [Value.string s, Value.int IntKind.i64 next, Value.slice p' (0 + n) c']
 (wrM 0)]
 w' W →
 AtL W b (o + x_1.toNat * 12)
 [Value.int IntKind.i64 x_2, Value.int IntKind.i64 x_3,
 Value.int IntKind.i64 x_4, Value.string x_5, Value.string x_6,
 Value.string x_7, Value.string x_8, Value.int IntKind.i64 x_9,
 Value.int IntKind.i64 x_10, Value.string x_11, Value.slice p n_4 c,
 Value.string x_12]) ∧
 ∀ (n_5 : Nat),
 ∃ (x_13 : Int),
 gimp (!fin)
 (∀ (W : World),
 Loc w.heap.size
 [Blk.mk n_5 68
 [Value.int IntKind.i64 x_2, Value.int IntKind.i64 x_3,
 Value.int IntKind.i64 (IntKind.i64.wrap (x_4 + 1)), Value.string x_5,
 Value.string x_6, Value.string x_7, Value.string x_8,
 Value.int IntKind.i64 x_9, Value.int IntKind.i64 x_10,
 Value.string x_11, Value.slice p n_4 c, Value.string x_12]
 (wrM (wrM 2)),
 Blk.mk n_2 62
 [Value.string (ByteArray.mk #[]), Value.int IntKind.i64 0,
 Value.slice none 0 0]
 0,
 Blk.mk n_1 62
 [Value.string s, Value.int IntKind.i64 next,
 Value.slice p' (0 + n) c']
 (wrM 0)]
 w' W →
 W.cell? (Addr.mk n_5 (0 + 2) none) = some (Value.int IntKind.i64 x_13)) ∧
 bsp (!fin && decide (x_13 < 8))
 (∀ (W : World),
 Loc w.heap.size
 [Blk.mk n_5 68
 [Value.int IntKind.i64 x_2,
 Value.int IntKind.i64 (IntKind.i64.wrap (now + 5)),
 Value.int IntKind.i64 (IntKind.i64.wrap (x_4 + 1)), Value.string x_5,
 Value.string x_6, Value.string x_7, Value.string x_8,
 Value.int IntKind.i64 x_9, Value.int IntKind.i64 x_10,
 Value.string x_11, Value.slice p n_4 c, Value.string x_12]
 (wrM (wrM (wrM 2))),
 Blk.mk n_2 62
 [Value.string (ByteArray.mk #[]), Value.int IntKind.i64 0,
 Value.slice none 0 0]
 0,
 Blk.mk n_1 62
 [Value.string s, Value.int IntKind.i64 next,
 Value.slice p' (0 + n) c']
 (wrM 0)]
 w' W →
 ∃ (I : List Value → World → Prop),
 ∃ (m : List Value → World → Nat),
 I [Value.int IntKind.i64 1] W ∧
 ∀ (x : Int) (w' : World),
 I [Value.int IntKind.i64 x] w' →
 Loc w.heap.size
 [Blk.mk n_2 62
 [Value.string (ByteArray.mk #[]), Value.int IntKind.i64 0,
 Value.slice none 0 0]
 0,
 Blk.mk n_1 62
 [Value.string s, Value.int IntKind.i64 next,
 Value.slice p' (0 + n) c']
 0]
 w' w' →
 ∃ (x_14 : Int),
 w'.cell? (Addr.mk n_5 (0 + 2) none) =
 some (Value.int IntKind.i64 x_14) ∧
 bsp (decide (x < x_14))
 (∃ (x_15 : Int),
 w'.cell? (Addr.mk n_5 (0 + 1) none) =
 some (Value.int IntKind.i64 x_15) ∧
 ((∃ (u : Value),
 w'.cell? (Addr.mk n_5 (0 + 1) none) = some u) ∧
 w'.frozen? (Addr.mk n_5 (0 + 1) none) = false) ∧
 ∀ (w1 : World),
 PutB w' n_5 (0 + 1)
 [Value.int IntKind.i64
 (IntKind.i64.wrap
 (now +
 IntKind.i64.wrap
 (2 * IntKind.i64.wrap (x_15 - now))))]
 w1 →
 KeptL [n_2, n_1] w' w1 ∧
 I [Value.int IntKind.i64 (IntKind.i64.wrap (x + 1))] w1 ∧
 m [Value.int IntKind.i64 (IntKind.i64.wrap (x + 1))] w1 <
 m [Value.int IntKind.i64 x] w')
 (∃ (x : Int),
 ∃ (x_15 : Int),
 ∃ (x_16 : Int),
 ∃ (x_17 : ByteArray),
 ∃ (x_18 : ByteArray),
 ∃ (x_19 : ByteArray),
 ∃ (x_20 : ByteArray),
 ∃ (x_21 : Int),
 ∃ (x_22 : Int),
 ∃ (x_23 : ByteArray),
 ∃ (p : Option Addr),
 ∃ (n_6 : Nat),
 ∃ (c : Nat),
 ∃ (x_24 : ByteArray),
 AtL w' n_5 0
 [Value.int IntKind.i64 x,
 Value.int IntKind.i64 x_15,
 Value.int IntKind.i64 x_16, Value.string x_17,
 Value.string x_18, Value.string x_19,
 Value.string x_20, Value.int IntKind.i64 x_21,
 Value.int IntKind.i64 x_22, Value.string x_23,
 Value.slice p n_6 c, Value.string x_24] ∧
 nn true p' fun (b o : Nat) =>
 (0 ≤ x_1 ∧ x_1 < (↑(0 + n) : Int)) ∧
 WrL w' b (o + x_1.toNat * 12) 12 ∧
 ∀ (w1 : World),
 PutB w' b (o + x_1.toNat * 12)
 [Value.int IntKind.i64 x,
 Value.int IntKind.i64 x_15,
 Value.int IntKind.i64 x_16,
 Value.string x_17, Value.string x_18,
 Value.string x_19, Value.string x_20,
 Value.int IntKind.i64 x_21,
 Value.int IntKind.i64 x_22,
 Value.string x_23, Value.slice p n_6 c,
 Value.string x_24]
 w1 →
 KeptL [n_2, n_1] w' w1 ∧
 ∀ (W : World),
 Loc w.heap.size
 [Blk.mk n_2 62
 [Value.string s,
 Value.int IntKind.i64 next,
 Value.slice p' (0 + n) c']
 (wrM 0),
 Blk.mk n_1 62
 [Value.string s,
 Value.int IntKind.i64 next,
 Value.slice p' (0 + n) c']
 0]
 w1 W →
 R
 (Ending.returned
 (Value.tuple
 #[Value.agg
 #[Value.string s,
 Value.int IntKind.i64 next,
 Value.slice p' (0 + n) c'],
 Value.int IntKind.i64 0,
 Value.bool false,
 Value.int IntKind.i64 0]))
 W))
 (∀ (W : World),
 Loc w.heap.size
 [Blk.mk n_5 68
 [Value.int IntKind.i64 x_2, Value.int IntKind.i64 x_3,
 Value.int IntKind.i64 (IntKind.i64.wrap (x_4 + 1)), Value.string x_5,
 Value.string x_6, Value.string x_7, Value.string x_8,
 Value.int IntKind.i64 x_9, Value.int IntKind.i64 x_10,
 Value.string x_11, Value.slice p n_4 c, Value.string x_12]
 (wrM (wrM 2)),
 Blk.mk n_2 62
 [Value.string (ByteArray.mk #[]), Value.int IntKind.i64 0,
 Value.slice none 0 0]
 0,
 Blk.mk n_1 62
 [Value.string s, Value.int IntKind.i64 next,
 Value.slice p' (0 + n) c']
 (wrM 0)]
 w' W →
 CallsS Tryz.prog 59
 #[Value.agg
 #[Value.string s, Value.int IntKind.i64 next,
 Value.slice p' (0 + n) c'],
 Value.int IntKind.i64 x]
 W fun (e : Ending) (w' : World) =>
 ∃ (x : ByteArray),
 ∃ (x_14 : Int),
 ∃ (p_1 : Option Addr),
 ∃ (n : Nat),
 ∃ (c_1 : Nat),
 ∃ (x_15 : Int),
 e =
 Ending.returned
 (Value.tuple
 #[Value.agg
 #[Value.string x, Value.int IntKind.i64 x_14,
 Value.slice p_1 n c_1],
 Value.int IntKind.i64 x_15]) ∧
 KeptL [n_5, n_2, n_1] W w' ∧
 ∀ (W : World),
 Loc w.heap.size
 [Blk.mk n_5 68
 [Value.int IntKind.i64 x_2, Value.int IntKind.i64 x_3,
 Value.int IntKind.i64 (IntKind.i64.wrap (x_4 + 1)),
 Value.string x_5, Value.string x_6, Value.string x_7,
 Value.string x_8, Value.int IntKind.i64 x_9,
 Value.int IntKind.i64 x_10, Value.string x_11,
 Value.slice p n_4 c, Value.string x_12]
 0,
 Blk.mk n_2 62
 [Value.string (ByteArray.mk #[]), Value.int IntKind.i64 0,
 Value.slice none 0 0]
 0,
 Blk.mk n_1 62
 [Value.string x, Value.int IntKind.i64 x_14,
 Value.slice p_1 n c_1]
 (wrM 0)]
 w' W →
 CallsS Tryz.prog 100
 #[Value.agg
 #[Value.string x_5, Value.string x_6, Value.string x_7,
 Value.string x_8, Value.int IntKind.i64 x_9,
 Value.int IntKind.i64 x_10, Value.string x_11,
 Value.slice p n_4 c, Value.string x_12],
 Value.string x, Value.int IntKind.i64 code,
 Value.int IntKind.i64 now]
 W fun (e : Ending) (w' : World) =>
 ∃ (x_16 : ByteArray),
 ∃ (x_17 : ByteArray),
 ∃ (x_18 : ByteArray),
 ∃ (x_19 : ByteArray),
 ∃ (x_20 : Int),
 ∃ (x_21 : Int),
 ∃ (x_22 : ByteArray),
 ∃ (p_2 : Option Addr),
 ∃ (n_6 : Nat),
 ∃ (c_2 : Nat),
 ∃ (x_23 : ByteArray),
 ∃ (x_24 : Bool),
 e =
 Ending.returned
 (Value.tuple
 #[Value.agg
 #[Value.string x_16, Value.string x_17,
 Value.string x_18, Value.string x_19,
 Value.int IntKind.i64 x_20,
 Value.int IntKind.i64 x_21,
 Value.string x_22,
 Value.slice p_2 n_6 c_2,
 Value.string x_23],
 Value.bool x_24]) ∧
 KeptL [n_5, n_2, n_1] W w' ∧
 ∀ (n_7 : Nat),
 bsp (!x_24)
 (∀ (W : World),
 Loc w.heap.size
 [Blk.mk n_7 32
 [Value.string x_16, Value.string x_17,
 Value.string x_18, Value.string x_19,
 Value.int IntKind.i64 x_20,
 Value.int IntKind.i64 x_21,
 Value.string x_22,
 Value.slice p_2 n_6 c_2,
 Value.string x_23]
 (wrM 2),
 Blk.mk n_5 68
 [Value.int IntKind.i64 x_2,
 Value.int IntKind.i64 x_3,
 Value.int IntKind.i64
 (IntKind.i64.wrap (x_4 + 1)),
 Value.string x_5, Value.string x_6,
 Value.string x_7, Value.string x_8,
 Value.int IntKind.i64 x_9,
 Value.int IntKind.i64 x_10,
 Value.string x_11, Value.slice p n_4 c,
 Value.string x_12]
 0,
 Blk.mk n_2 62
 [Value.string x,
 Value.int IntKind.i64 x_14,
 Value.slice p_1 n c_1]
 (wrM 0),
 Blk.mk n_1 62
 [Value.string x,
 Value.int IntKind.i64 x_14,
 Value.slice p_1 n c_1]
 0]
 w' W →
 R
 (Ending.returned
 (Value.tuple
 #[Value.agg
 #[Value.string x,
 Value.int IntKind.i64 x_14,
 Value.slice p_1 n c_1],
 Value.int IntKind.i64 0,
 Value.bool false,
 Value.int IntKind.i64 0]))
 W)
 (∀ (W : World),
 Loc w.heap.size
 [Blk.mk n_7 32
 [Value.string x_16, Value.string x_17,
 Value.string x_18, Value.string x_19,
 Value.int IntKind.i64 x_20,
 Value.int IntKind.i64 x_21,
 Value.string x_22,
 Value.slice p_2 n_6 c_2,
 Value.string x_23]
 (wrM 2),
 Blk.mk n_5 68
 [Value.int IntKind.i64 x_2,
 Value.int IntKind.i64 x_3,
 Value.int IntKind.i64
 (IntKind.i64.wrap (x_4 + 1)),
 Value.string x_5, Value.string x_6,
 Value.string x_7, Value.string x_8,
 Value.int IntKind.i64 x_9,
 Value.int IntKind.i64 x_10,
 Value.string x_11, Value.slice p n_4 c,
 Value.string x_12]
 0,
 Blk.mk n_2 62
 [Value.string (ByteArray.mk #[]),
 Value.int IntKind.i64 0,
 Value.slice none 0 0]
 0,
 Blk.mk n_1 62
 [Value.string x,
 Value.int IntKind.i64 x_14,
 Value.slice p_1 n c_1]
 0]
 w' W →
 CallsS Tryz.prog 99
 #[Value.agg
 #[Value.string x,
 Value.int IntKind.i64 x_14,
 Value.slice p_1 n c_1],
 Value.agg
 #[Value.string x_16, Value.string x_17,
 Value.string x_18, Value.string x_19,
 Value.int IntKind.i64 x_20,
 Value.int IntKind.i64 x_21,
 Value.string x_22,
 Value.slice p_2 n_6 c_2,
 Value.string x_23],
 Value.int IntKind.i64 now]
 W fun (e : Ending) (w' : World) =>
 ∃ (x : ByteArray),
 ∃ (x_25 : Int),
 ∃ (p_3 : Option Addr),
 ∃ (n : Nat),
 ∃ (c_3 : Nat),
 e =
 Ending.returned
 (Value.agg
 #[Value.string x,
 Value.int IntKind.i64 x_25,
 Value.slice p_3 n c_3]) ∧
 KeptL [n_7, n_5, n_2, n_1] W w' ∧
 ∀ (W : World),
 Loc w.heap.size
 [Blk.mk n_7 32
 [Value.string x_16,
 Value.string x_17,
 Value.string x_18,
 Value.string x_19,
 Value.int IntKind.i64 x_20,
 Value.int IntKind.i64 x_21,
 Value.string x_22,
 Value.slice p_2 n_6 c_2,
 Value.string x_23]
 0,
 Blk.mk n_5 68
 [Value.int IntKind.i64 x_2,
 Value.int IntKind.i64 x_3,
 Value.int IntKind.i64
 (IntKind.i64.wrap
 (x_4 + 1)),
 Value.string x_5,
 Value.string x_6,
 Value.string x_7,
 Value.string x_8,
 Value.int IntKind.i64 x_9,
 Value.int IntKind.i64 x_10,
 Value.string x_11,
 Value.slice p n_4 c,
 Value.string x_12]
 0,
 Blk.mk n_2 62
 [Value.string
 (ByteArray.mk #[]),
 Value.int IntKind.i64 0,
 Value.slice none 0 0]
 0,
 Blk.mk n_1 62
 [Value.string x,
 Value.int IntKind.i64 x_25,
 Value.slice p_3 n c_3]
 (wrM 0)]
 w' W →
 ∃ (S : World → Prop),
 S W ∧
 ∃ (x : ByteArray),
 ∃ (x_26 : Int),
 ∃ (p : Option Addr),
 ∃ (n : Nat),
 ∃ (c : Nat),
 (∀ (w' : World),
 S w' →
 AtL w' n_1 0
 [Value.string x,
 Value.int IntKind.i64
 x_26,
 Value.slice p n c]) ∧
 ∃ (x_27 : Int),
 (∀ (w' : World),
 S w' →
 w'.cell?
 (Addr.mk n_1
 (0 + 1) none) =
 some
 (Value.int
 IntKind.i64
 x_27)) ∧
 WrL W n_2 0 3 ∧
 ∀ (w1 : World),
 PutB W n_2 0
 [Value.string x,
 Value.int
 IntKind.i64 x_26,
 Value.slice p n c]
 w1 →
 S w1 ∧
 KeptL
 [n_7, n_5, n_1] W
 w1 ∧
 ∃ (x : ByteArray),
 ∃ (x_28 : Int),
 ∃ (p :
 Option Addr),
 ∃ (n : Nat),
 ∃ (c : Nat),
 AtL w1 n_2 0
 [Value.string
 x,
 Value.int
 IntKind.i64
 x_28,
 Value.slice
 p n c] ∧
 R
 (Ending.returned
 (Value.tuple
 #[Value.agg
 #[Value.string
 x,
 Value.int
 IntKind.i64
 x_28,
 Value.slice
 p n
 c],
 Value.int
 IntKind.i64
 x_27,
 Value.bool
 true,
 Value.int
 IntKind.i64
 0]))
 w1))))
theorem vc_rfail (s : ByteArray) (next : Int) (p : Option Addr) (n : Nat) (c : Nat) (x : Int) (now : Int) (code : Int) (fin : Bool) (w : World) (R : Ending → World → Prop) (h : VC_rfail s next p n c x now code fin w R) : Calls Tryz.prog 60 ([Value.agg
    #[Value.string s, Value.int IntKind.i64 next, Value.slice p n c],
  Value.int IntKind.i64 x, Value.int IntKind.i64 now, Value.int IntKind.i64 code,
  Value.bool fin] : List Value).toArray w R := by
  have e : execR2 { P := Tryz.prog, loops := [(12, [(16, Ck.int IntKind.i64)])], pur := purM, tails := [(22, 3)], joins := [], boxes := [] } Tryz.f60.results.toList R (Tryz.f60.body.getD .skip) (initF [Value.agg
    #[Value.string s, Value.int IntKind.i64 next, Value.slice p n c],
  Value.int IntKind.i64 x, Value.int IntKind.i64 now, Value.int IntKind.i64 code,
  Value.bool
    fin] (Tryz.f60.ntmps - ([Value.agg #[Value.string s, Value.int IntKind.i64 next, Value.slice p n c],
  Value.int IntKind.i64 x, Value.int IntKind.i64 now, Value.int IntKind.i64 code,
  Value.bool fin] : List Value).length)) w = VC_rfail s next p n c x now code fin w R := by kernel_rfl
  have hb : Tryz.f60.body = some (Tryz.f60.body.getD .skip) := by kernel_rfl
  exact calls_of_exec2' (P := Tryz.prog) (fn := Tryz.f60) (c := Tryz.f60.body.getD .skip) (args := [Value.agg
    #[Value.string s, Value.int IntKind.i64 next, Value.slice p n c],
  Value.int IntKind.i64 x, Value.int IntKind.i64 now, Value.int IntKind.i64 code,
  Value.bool fin]) (w := w) (R := R) purM_ok Tryz.func60 hb e h

end Go.Proofs.YtmlmdljnfokebaaGreatDoor

/- Chapter 49: the contracts of the reference's Find, put, Add, Done. Lists of at most 1000 messages; numbers that are not too great. -/
namespace Go.Proofs.YtmlmdljnfokebaaGreatDoor
open Go.RowKit Go.Maps

theorem rfind_any (s : ByteArray) (next : Int) (L : List Wx) (p : Option Addr) (c : Nat) (x : Int) (w : World) (hR : WR w p c L) (hl : L.length ≤ 1000) :
    Calls Tryz.prog 26 #[.agg #[.string s, .int .i64 next, .slice p L.length c], .int .i64 x] w fun e w' => ((e = .returned (.int .i64 (-1)) ∧ ∀ y ∈ L, y.n ≠ x) ∨ ∃ (i : Nat) (y : Wx), e = .returned (.int .i64 (i : Int)) ∧ L[i]? = some y ∧ y.n = x) ∧ K0 w w' := by
  refine vc_rfind s next p L.length c x w _ (fun n1 W hW => ?_)
  have kW : K0 w W := hW.kk rfl
  refine ⟨fun vs w' => ∃ i : Nat, vs = [.int .i64 (i : Int)] ∧ i ≤ L.length ∧ (∀ j y, j < i → L[j]? = some y → y.n ≠ x) ∧ K0 w w', fun vs _ => (match vs with | .int _ a :: _ => L.length - a.toNat | _ => 0), ⟨0, rfl, by omega, (fun j y h => by omega), kW⟩, ?_⟩
  rintro a w1 ⟨i, hv, hi, hno, k1⟩ hL1
  simp only [List.cons.injEq, Value.int.injEq, true_and, and_true] at hv
  subst hv
  refine bsp_intro (fun hlt => ?_) (fun hge => ?_)
  · have hlt : i < L.length := by simp at hlt; omega
    obtain ⟨y, b, o, hy, hp, hat⟩ := (hR.k0 k1).get hlt
    have hc := hat.cell (j := 0) rfl
    refine nn_is hp ⟨⟨by omega, by omega⟩, y.n, by rw [Int.toNat_natCast]; simpa using hc, bsp_intro (fun h => ?_) (fun h => ?_)⟩
    · exact ⟨.inr ⟨i, y, rfl, hy, by simpa using h⟩, k1⟩
    · have h : y.n ≠ x := by simpa using h
      refine ⟨⟨i + 1, by rw [inc64 (by omega)], by omega, fun j z hj hz => ?_, k1⟩, by rw [inc64 (by omega)]; simp only [Int.toNat_natCast]; omega⟩
      by_cases e : j = i
      · subst e; rw [hy] at hz; cases hz; exact h
      · exact hno j z (by omega) hz
  · have hi : i = L.length := by simp at hge; omega
    refine ⟨.inl ⟨rfl, fun y hy => ?_⟩, k1⟩
    obtain ⟨j, hj, e⟩ := List.getElem_of_mem hy
    exact hno j y (by omega) (by rw [List.getElem?_eq_getElem hj, e])
/-- A message that is new in the reference's list. -/
abbrev nwx (next now : Int) (m : Ml) (q : Option Addr) (d : Nat) : Wx := ⟨next + 1, now, 0, m, q, d⟩
theorem own_n {n k : Nat} (h : (Value.slice (some (Addr.mk n 0 none)) 0 0).ownBlock = some k) : k = n := by simp [Value.ownBlock] at h; exact h.symm
theorem app_wx {w : World} {base c : Nat} {p : Option Addr} {L : List Wx} {x : Wx} (h : w.ownsRow base 68 12 (.slice p (0 + L.length + 1) c) (0 + L.length + 1) (L.flatMap wxC ++ wxC x)) : w.ownsRow base 68 12 (.slice p (L ++ [x]).length c) (L ++ [x]).length ((L ++ [x]).flatMap wxC) := by
  have e1 : (L ++ [x]).length = 0 + L.length + 1 := by simp
  have e2 : (L ++ [x]).flatMap wxC = L.flatMap wxC ++ wxC x := by simp
  rw [e1, e2]; exact h
set_option maxHeartbeats 2000000 in
theorem rput_any (s : ByteArray) (next : Int) (L : List Wx) (p : Option Addr) (c : Nat) (m : Ml) (q : Option Addr) (d : Nat) (now : Int) (w : World) (hR : WR w p c L) (hl : L.length ≤ 1000) (hn : 0 ≤ next ∧ next ≤ 4611686018427387904) :
    Calls Tryz.prog 99 #[.agg #[.string s, .int .i64 next, .slice p L.length c], mxA m q d, .int .i64 now] w fun e w' => (∃ (p' : Option Addr) (c' : Nat), e = .returned (.agg #[.string s, .int .i64 (next + 1), .slice p' (L ++ [nwx next now m q d]).length c']) ∧
      w'.ownsRow w.heap.size 68 12 (.slice p' (L ++ [nwx next now m q d]).length c') (L ++ [nwx next now m q d]).length ((L ++ [nwx next now m q d]).flatMap wxC)) ∧ K0 w w' := by
  refine vc_rput s next p L.length c m.fu m.fs m.tu m.ts m.n m.d m.sj q m.hops.length d m.bd now w _ (fun n1 n2 n3 W hW => ?_)
  have kW : K0 w W := hW.kk rfl
  have e1 : IntKind.i64.wrap (next + 1) = next + 1 := wr64 (by omega) (by omega)
  have hb1 : W.heap[n1]? = some (.cells #[.string s, .int .i64 (next + 1), .slice p L.length c] 62 (0, 0)) := by
    have := hW.cells 2 rfl
    rw [e1] at this; exact this
  have hb2 : W.heap[n2]? = some (.cells #[.string m.fu, .string m.fs, .string m.tu, .string m.ts, .int .i64 m.n, .int .i64 m.d, .string m.sj, .slice q m.hops.length d, .string m.bd] 32 (0, 0)) := hW.cells 1 rfl
  have hb3 := block_lt (hW.cells 0 rfl)
  simp only at hb3
  have h12 : n2 ≠ n1 := hW.apart 1 2 rfl rfl (by decide)
  have h13 : n3 ≠ n1 := hW.apart 0 2 rfl rfl (by decide)
  have l1 := block_lt hb1
  have l2 := block_lt hb2
  have g1 : w.heap.size ≤ n1 := hW.fresh 2 rfl rfl
  have hRW := hR.k0 kW
  have sz := kW.size
  generalize hx : nwx next now m q d = x
  have hxc : wxC x = [.int .i64 (next + 1), .int .i64 now, .int .i64 0, .string m.fu, .string m.fs, .string m.tu, .string m.ts, .int .i64 m.n, .int .i64 m.d, .string m.sj, .slice q m.hops.length d, .string m.bd] := by rw [← hx]; rfl
  refine ⟨fun wx => K0 W wx, .refl _ _, p, L.length, c, fun wx k => cell_at (k.blk hb1 (fun h => h)) rfl, next + 1, fun wx k => cell_at (k.blk hb1 (fun h => h)) rfl, m.fu, m.fs, m.tu, m.ts, m.n, m.d, m.sj, q, m.hops.length, d, m.bd, fun wx k => AtL_block (k.blk hb2 (fun h => h)) rfl, ?_⟩
  have one : ∀ u ∈ wxC x, u.oneCell' = true := wxC_one x
  rw [hxc] at one
  refine ⟨fun n5 w1 h5 => ⟨h5.kp _, ⟨W.heap.size, [], L.flatMap wxC, own_none h5.ge h5.block, WR.len, (hRW.k0 (h5.kp _)).src, by omega, by omega, (h5.kp (fun _ => False)).size, fun p3 c3 w2 ho2 hg2 _ => ?_⟩, fun n6 w2 h6 => ⟨(h5.kp _).trans (h6.kp _), W.heap.size, [], L.flatMap wxC, own_none h5.ge ((h6.kp (fun _ => False)).blk h5.block (fun h => h)), WR.len, (hRW.k0 ((h5.kp _).trans (h6.kp _))).src, by omega, by omega, ((h5.kp (fun _ => False)).trans (h6.kp _)).size, fun p3 c3 w3 ho3 hg3 _ => ?_⟩⟩,
    fun n5 w1 h5 => ⟨h5.kp _, fun n6 w2 h6 => ⟨(h5.kp _).trans (h6.kp _), W.heap.size, [], L.flatMap wxC, own_none (Nat.le_trans (h5.kp (fun _ => False)).size h6.ge) h6.block, WR.len, (hRW.k0 ((h5.kp _).trans (h6.kp _))).src, by omega, by omega, ((h5.kp (fun _ => False)).trans (h6.kp _)).size, fun p3 c3 w3 ho3 hg3 _ => ?_⟩⟩⟩
  rw [List.nil_append] at ho2
  have k2 : K0 W w2 := (h5.kp _).fresh (kp_grown hg2) (fun j hj e => by have := own_n e; have := h5.ge; omega)
  refine ⟨k2, fun n6 w3 h6 => ⟨k2.trans (h6.kp _), W.heap.size, _, _, owns_kp ho2 (h6.kp (fun _ => False)) (fun _ _ h => h), rfl, src_block h6.block one, by omega, by omega, (k2.trans (h6.kp (fun _ => False))).size, fun p7 c7 w4 ho4 hg4 _ => ?_⟩⟩
  have k4 : K0 W w4 := (k2.trans (h6.kp _)).fresh (kp_grown hg4) (fun j hj e => by have := own_ge ho2 e; omega)
  have ho4 : w4.ownsRow W.heap.size 68 12 (.slice p7 (0 + L.length + 1) c7) (0 + L.length + 1) (L.flatMap wxC ++ wxC x) := by rw [hxc]; exact ho4
  clear ho2 hg2 h6 hg4 h5 k2
  rotate_left
  rw [List.nil_append] at ho3
  have k3 : K0 W w3 := ((h5.kp _).trans (h6.kp _)).fresh (kp_grown hg3) (fun j hj e => by have := own_n e; have := h5.ge; omega)
  refine ⟨k3, W.heap.size, _, _, ho3, rfl, src_block ((kp_grown hg3).blk h6.block (fun e => by have := own_n e; have := h6.ge; have := h5.size; omega)) one, by omega, by omega, k3.size, fun p7 c7 w4 ho4 hg4 _ => ?_⟩
  have k4 : K0 W w4 := k3.fresh (kp_grown hg4) (fun j hj e => by have := own_ge ho3 e; omega)
  have ho4 : w4.ownsRow W.heap.size 68 12 (.slice p7 (0 + L.length + 1) c7) (0 + L.length + 1) (L.flatMap wxC ++ wxC x) := by rw [hxc]; exact ho4
  clear ho3 hg3 h6 hg4 h5 k3
  rotate_left
  rw [List.nil_append] at ho3
  have k3 : K0 W w3 := ((h5.kp _).trans (h6.kp _)).fresh (kp_grown hg3) (fun j hj e => by have := own_n e; have := h6.ge; have := h5.size; have := h5.ge; omega)
  refine ⟨k3, W.heap.size, _, _, ho3, rfl, src_block ((kp_grown hg3).blk ((h6.kp (fun _ => False)).blk h5.block (fun h => h)) (fun e => by have := own_n e; have := h6.ge; have := h5.size; omega)) one, by omega, by omega, k3.size, fun p7 c7 w4 ho4 hg4 _ => ?_⟩
  have k4 : K0 W w4 := k3.fresh (kp_grown hg4) (fun j hj e => by have := own_ge ho3 e; omega)
  have ho4 : w4.ownsRow W.heap.size 68 12 (.slice p7 (0 + L.length + 1) c7) (0 + L.length + 1) (L.flatMap wxC ++ wxC x) := by rw [hxc]; exact ho4
  clear ho3 hg3 h6 hg4 h5 k3
  rotate_left
  all_goals
    have hc4 := k4.blk hb1 (fun h => h)
    have ho4' := app_wx ho4
    refine ⟨cell_wr hc4 (by show 2 < 3; omega), fun w5 h5 => ⟨⟨by rw [h5.size]; exact k4.size, fun y hy hlt => ?_⟩, s, next + 1, p7, (L ++ [x]).length, c7, AtL_block (h5.block hc4) (by rw [show (L ++ [x]).length = 0 + L.length + 1 by simp]; rfl), fun W6 hW6 => ⟨⟨p7, c7, rfl, ?_⟩, ?_⟩⟩⟩
    · have hy : y = n3 ∨ y = n2 := by simpa using hy
      rw [h5.kp.block y (Nat.lt_of_lt_of_le hlt k4.size) (fun e => by omega), k4.block y hlt (fun h => h)]
    · refine own_base (own_loc (owns_kp ho4' h5.kp (fun k hk e => ?_)) hW6 (fun b hb e => ?_)) sz
      · have := own_ge ho4' hk; omega
      · have h1 := own_ge ho4' e
        simp at hb
        rcases hb with rfl | rfl
        · simp only at h1; omega
        · simp only at h1; omega
    · exact hW6.k0 (put_k0 (kW.trans k4) h5 g1)
set_option maxHeartbeats 2000000 in
theorem rdone_any (s : ByteArray) (next : Int) (L : List Wx) (p : Option Addr) (c : Nat) (x : Int) (w : World) (hR : WR w p c L) (hl : L.length ≤ 1000) :
    Calls Tryz.prog 59 #[.agg #[.string s, .int .i64 next, .slice p L.length c], .int .i64 x] w fun e w' => ((e = .returned (.tuple #[.agg #[.string s, .int .i64 next, .slice p L.length c], .int .i64 8]) ∧ ∀ y ∈ L, y.n ≠ x) ∨
      ∃ (i : Nat) (y : Wx) (p' : Option Addr) (c' : Nat), e = .returned (.tuple #[.agg #[.string s, .int .i64 next, .slice p' (L.eraseIdx i).length c'], .int .i64 0]) ∧ L[i]? = some y ∧ y.n = x ∧ w'.ownsRow w.heap.size 68 12 (.slice p' (L.eraseIdx i).length c') (L.eraseIdx i).length ((L.eraseIdx i).flatMap wxC)) ∧ K0 w w' := by
  refine vc_rdone s next p L.length c x w _ (fun n1 n2 W hW => ?_)
  have kW : K0 w W := hW.kk rfl
  refine ⟨(rfind_any s next L p c x W (hR.k0 kW) hl).mono fun e w1 ⟨h, k1⟩ => ?_⟩
  rcases h with ⟨he, hno⟩ | ⟨i, y, he, hy, hn⟩
  · refine ⟨_, he, .of_k0 k1, bsp_intro (fun _ => fun W2 hW2 => ?_) (fun h => by simp at h)⟩
    exact ⟨.inl ⟨rfl, hno⟩, hW2.k0 (kW.trans k1)⟩
  · refine ⟨_, he, .of_k0 k1, bsp_intro (fun h => by simp at h; omega) (fun _ => fun W2 hW2 => ?_)⟩
    have hi : i < L.length := (List.getElem?_eq_some_iff.1 hy).1
    have k2 : K0 w1 W2 := hW2.kk rfl
    have k02 := (kW.trans k1).trans k2
    have hb1 : W2.heap[n1]? = some (.cells #[.string s, .int .i64 next, .slice p L.length c] 62 (0, 0)) := hW2.cells 1 rfl
    have l1 := block_lt hb1
    have l2 := block_lt (hW2.cells 0 rfl)
    simp only at l2
    have h12 : n2 ≠ n1 := hW2.apart 0 1 rfl rfl (by decide)
    have g1 : w.heap.size ≤ n1 := hW.fresh 1 rfl rfl
    have hR2 := hR.k0 k02
    have hsrc := hR2.src
    have hlen := WR.len (L := L)
    rw [inc64 (by omega), Int.toNat_natCast, Int.toNat_natCast]
    have hle := hR.le
    refine ⟨fun wx => K0 W2 wx, .refl _ _, p, L.length, c, fun wx k => cell_at (k.blk hb1 (fun h => h)) rfl, ⟨by omega, by omega⟩, p, L.length, c, fun wx k => cell_at (k.blk hb1 (fun h => h)) rfl, ⟨by omega, by omega⟩, fun n3 w3 h3 => ⟨h3.kp _, W2.heap.size, [], (L.flatMap wxC).take (i * 12), own_none h3.ge h3.block, ?_, ((hR2.k0 (h3.kp _)).src).take _, by omega, by omega, (h3.kp (fun _ => False)).size, fun p4 c4 w4 ho4 hg4 _ => ?_⟩⟩
    · rw [List.length_take, hlen]; exact Nat.min_eq_left (Nat.mul_le_mul_right _ (by omega))
    rw [List.nil_append] at ho4
    have k4 : K0 W2 w4 := (h3.kp _).fresh (kp_grown hg4) (fun j hj e => by have := own_n e; have := h3.ge; omega)
    refine ⟨k4, W2.heap.size, _, (L.flatMap wxC).drop ((i + 1) * 12), ho4, ?_, ((hR2.k0 k4).src).drop (by rw [hlen]; omega), by omega, by omega, k4.size, fun p5 c5 w5 ho5 hg5 _ => ?_⟩
    · rw [List.length_drop, hlen, Nat.sub_mul]
    have k5 : K0 W2 w5 := k4.fresh (kp_grown hg5) (fun j hj e => by have := own_ge ho4 e; omega)
    have em : 0 + i + (L.length - (i + 1)) = (L.eraseIdx i).length := by rw [List.length_eraseIdx_of_lt hi]; omega
    rw [erase_flat wxC 12 L i wxC_length, em] at ho5
    rw [em]
    have hc5 := k5.blk hb1 (fun h => h)
    refine ⟨cell_wr hc5 (by show 2 < 3; omega), fun w6 h6 => ⟨⟨by rw [h6.size]; exact k5.size, fun z hz hlt => ?_⟩, s, next, p5, (L.eraseIdx i).length, c5, AtL_block (h6.block hc5) rfl, fun W7 hW7 => ⟨.inr ⟨i, y, p5, c5, rfl, hy, hn, ?_⟩, ?_⟩⟩⟩
    · obtain rfl : z = n2 := by simpa using hz
      rw [h6.kp.block z (Nat.lt_of_lt_of_le hlt k5.size) (fun e => h12 e), k5.block z hlt (fun h => h)]
    · refine own_base (own_loc (owns_kp ho5 h6.kp (fun k hk e => ?_)) hW7 (fun b hb e => ?_)) k02.size
      · have := own_ge ho5 hk; omega
      · have h1 := own_ge ho5 e
        simp at hb
        subst hb
        simp only at h1; omega
    · exact hW7.k0 (put_k0 (k02.trans k5) h6 g1)
set_option maxHeartbeats 2000000 in
theorem radd_any (s : ByteArray) (next : Int) (L : List Wx) (p : Option Addr) (c : Nat) (m : Ml) (q : Option Addr) (d : Nat) (now : Int) (w : World) (hR : WR w p c L) (hl : L.length ≤ 1000) (hn : 0 ≤ next ∧ next ≤ 4611686018427387904) (hS : StrP w q m.hops) (hc : m.hops.length ≤ d) (hz : m.fu.size ≤ 4611686018427387904 ∧ m.tu.size ≤ 4611686018427387904) (hhl : m.hops.length ≤ 4611686018427387904) :
    Calls Tryz.prog 58 #[.agg #[.string s, .int .i64 next, .slice p L.length c], mxA m q d, .int .i64 now] w fun e w' => ((e = .returned (.tuple #[.agg #[.string s, .int .i64 next, .slice p L.length c], .int .i64 0, .int .i64 (if chkM m ≠ 0 then chkM m else if minB now = false then 13 else 9)]) ∧ (chkM m ≠ 0 ∨ minB now = false ∨ 1024 ≤ L.length)) ∨
      (chkM m = 0 ∧ minB now = true ∧ ∃ (p' : Option Addr) (c' : Nat), e = .returned (.tuple #[.agg #[.string s, .int .i64 (next + 1), .slice p' (L ++ [nwx next now m q d]).length c'], .int .i64 (next + 1), .int .i64 0]) ∧
      w'.ownsRow w.heap.size 68 12 (.slice p' (L ++ [nwx next now m q d]).length c') (L ++ [nwx next now m q d]).length ((L ++ [nwx next now m q d]).flatMap wxC))) ∧ K0 w w' := by
  refine vc_radd s next p L.length c m.fu m.fs m.tu m.ts m.n m.d m.sj q m.hops.length d m.bd now w _ (fun n1 n2 n3 W hW => ?_)
  have kW : K0 w W := hW.kk rfl
  have g3 : w.heap.size ≤ n3 := hW.fresh 0 rfl rfl
  refine ⟨(xcheck_any m q d W (hS.k0 kW) hc hz hhl).mono fun e w1 ⟨he, k1⟩ => ⟨_, he, .of_k0 k1, bsp_intro (fun h => fun W2 hW2 => ?_) (fun h => ?_)⟩⟩
  · have h0 : chkM m ≠ 0 := by simpa using h
    have k2 : K0 w1 W2 := hW2.kk rfl
    have k02 := (kW.trans k1).trans k2
    have hb3 : W2.heap[n3]? = some (.cells #[.string ⟨#[]⟩, .int .i64 0, .slice none 0 0] 62 (0, 0)) := hW2.cells 0 rfl
    have hb2 : W2.heap[n2]? = some (.cells #[.string m.fu, .string m.fs, .string m.tu, .string m.ts, .int .i64 m.n, .int .i64 m.d, .string m.sj, .slice q m.hops.length d, .string m.bd] 32 (0, 0)) := hW2.cells 1 rfl
    have hb1 : W2.heap[n1]? = some (.cells #[.string s, .int .i64 next, .slice p L.length c] 62 (0, 0)) := hW2.cells 2 rfl
    have h31 : n3 ≠ n1 := hW2.apart 0 2 rfl rfl (by decide)
    have h32 : n3 ≠ n2 := hW2.apart 0 1 rfl rfl (by decide)
    refine ⟨fun wx => K0 W2 wx, .refl _ _, s, next, p, L.length, c, fun wx k => AtL_block (k.blk hb1 (fun h => h)) rfl, m.fu, m.fs, m.tu, m.ts, m.n, m.d, m.sj, q, m.hops.length, d, m.bd, fun wx k => AtL_block (k.blk hb2 (fun h => h)) rfl, ?_⟩
    refine ⟨(xcheck_any m q d W2 (hS.k0 k02) hc hz hhl).mono fun e w4 ⟨he, k4⟩ => ⟨_, he, k4, WrL_block (k4.blk hb3 (fun h => h)) (Nat.le_refl 3), fun w5 h5 => ⟨⟨by rw [h5.size]; exact k4.size, fun z hz hlt => ?_⟩, s, next, p, L.length, c, AtL_block (h5.full (k4.blk hb3 (fun h => h)) rfl) rfl, .inl ⟨by rw [if_pos h0], .inl h0⟩, put_k0 (k02.trans k4) h5 g3⟩⟩⟩
    have hz : z = n2 ∨ z = n1 := by simpa using hz
    rw [h5.kp.block z (Nat.lt_of_lt_of_le hlt k4.size) (fun e => by omega), k4.block z hlt (fun h => h)]
  have h0 : chkM m = 0 := by simpa using h
  refine bsp_intro (fun h => fun W2 hW2 => ?_) (fun h => ?_)
  · have hm : minB now = false := by simpa using h
    exact ⟨.inl ⟨by rw [if_neg (by simpa using h0), if_pos hm], .inr (.inl hm)⟩, hW2.k0 (kW.trans k1)⟩
  have hm : minB now = true := by simpa using h
  refine bsp_intro (fun h => by simp at h; omega) (fun _ => ?_)
  refine ⟨(rput_any s next L p c m q d now w1 (hR.k0 (kW.trans k1)) hl hn).mono fun e w4 ⟨⟨p4, c4, he, ho4⟩, k4⟩ => ⟨_, _, _, _, _, he, .of_k0 k4, fun W5 hW5 => ?_⟩⟩
  have hb3 : W5.heap[n3]? = some (.cells #[.string ⟨#[]⟩, .int .i64 0, .slice none 0 0] 62 (0, 0)) := hW5.cells 0 rfl
  have hb1 : W5.heap[n1]? = some (.cells #[.string s, .int .i64 (next + 1), .slice p4 (L ++ [nwx next now m q d]).length c4] 62 (0, 0)) := hW5.cells 2 rfl
  have h31 : n3 ≠ n1 := hW5.apart 0 2 rfl rfl (by decide)
  have h32 : n3 ≠ n2 := hW5.apart 0 1 rfl rfl (by decide)
  have k05 : K0 w W5 := hW5.k0 ((kW.trans k1).trans k4)
  have l1 : n1 < w1.heap.size := Nat.lt_of_lt_of_le (by have := block_lt (hW.cells 2 rfl); simpa using this) k1.size
  have l3 : n3 < w1.heap.size := Nat.lt_of_lt_of_le (by have := block_lt (hW.cells 0 rfl); simpa using this) k1.size
  have l2 : n2 < w1.heap.size := Nat.lt_of_lt_of_le (by have := block_lt (hW.cells 1 rfl); simpa using this) k1.size
  have ho5 := own_loc ho4 hW5 (fun b hb e => by
    have h1 := own_ge ho4 e
    simp at hb
    rcases hb with rfl | rfl | rfl <;> (simp only at h1; omega))
  refine ⟨fun wx => wx.heap[n1]? = W5.heap[n1]?, rfl, s, next + 1, p4, (L ++ [nwx next now m q d]).length, c4, fun wx k => AtL_block (k.trans hb1) rfl, next + 1, fun wx k => cell_at (k.trans hb1) rfl, WrL_block hb3 (Nat.le_refl 3), fun w6 h6 => ⟨?_, ⟨by rw [h6.size]; exact Nat.le_refl _, fun z hz hlt => ?_⟩, s, next + 1, p4, _, c4, AtL_block (h6.full hb3 rfl) rfl, .inr ⟨h0, hm, p4, c4, rfl, ?_⟩, put_k0 k05 h6 g3⟩⟩
  · show w6.heap[n1]? = _
    rw [h6.kp.block n1 (block_lt hb1) (fun e => h31 e.symm)]
  · have hz : z = n2 ∨ z = n1 := by simpa using hz
    rw [h6.kp.block z hlt (fun e => by omega)]
  · refine own_base (owns_kp ho5 h6.kp (fun k hk e => ?_)) (kW.trans k1).size
    have := own_ge ho5 hk; omega

end Go.Proofs.YtmlmdljnfokebaaGreatDoor

/- Chapter 49: the contract of the reference's Fail. Lists of at most 1000 messages by rising numbers; numbers that are not too great. -/
namespace Go.Proofs.YtmlmdljnfokebaaGreatDoor
open Go.RowKit Go.Maps

theorem uniq_at {L : List Wx} (hup : L.Pairwise fun x y => x.n < y.n) {i j : Nat} {x y : Wx} (h1 : L[i]? = some x) (h2 : L[j]? = some y) (e : x.n = y.n) : i = j := by
  obtain ⟨hi, rfl⟩ := List.getElem?_eq_some_iff.1 h1
  obtain ⟨hj, rfl⟩ := List.getElem?_eq_some_iff.1 h2
  have hp := List.pairwise_iff_getElem.1 hup
  rcases Nat.lt_trichotomy i j with h | h | h
  · have := hp i j hi hj h; omega
  · exact h
  · have := hp j i hj hi h; omega
/-- A message after one more failure. -/
def updW (y : Wx) (now : Int) : Wx := ⟨y.n, now + 5 * 2 ^ y.f.toNat, y.f + 1, y.m, y.p, y.c⟩
abbrev qV (s : ByteArray) (next : Int) (p : Option Addr) (n c : Nat) : Value := .agg #[.string s, .int .i64 next, .slice p n c]
/-- What the reference's Fail answers and leaves. -/
def RFailP (w w' : World) (s : ByteArray) (next : Int) (L : List Wx) (p : Option Addr) (c : Nat) (a now code : Int) (g : Bool) (e : Ending) : Prop :=
  (e = .returned (.tuple #[qV s next p L.length c, .int .i64 0, .bool false, .int .i64 8]) ∧ ∀ y ∈ L, y.n ≠ a) ∨
  (∃ (i : Nat) (y : Wx), L[i]? = some y ∧ y.n = a ∧ (
    (minB now = false ∧ e = .returned (.tuple #[qV s next p L.length c, .int .i64 0, .bool false, .int .i64 13])) ∨
    (minB now = true ∧ g = false ∧ y.f + 1 < 8 ∧ ∃ (p' : Option Addr) (c' : Nat), e = .returned (.tuple #[qV s next p' (L.set i (updW y now)).length c', .int .i64 0, .bool false, .int .i64 0]) ∧
      w'.ownsRow w.heap.size 68 12 (.slice p' (L.set i (updW y now)).length c') (L.set i (updW y now)).length ((L.set i (updW y now)).flatMap wxC)) ∨
    (minB now = true ∧ (g = true ∨ 8 ≤ y.f + 1) ∧ bncM y.m s code now = none ∧ ∃ (p' : Option Addr) (c' : Nat), e = .returned (.tuple #[qV s next p' (L.eraseIdx i).length c', .int .i64 0, .bool false, .int .i64 0]) ∧
      w'.ownsRow w.heap.size 68 12 (.slice p' (L.eraseIdx i).length c') (L.eraseIdx i).length ((L.eraseIdx i).flatMap wxC)) ∨
    (minB now = true ∧ (g = true ∨ 8 ≤ y.f + 1) ∧ ∃ z, bncM y.m s code now = some z ∧ ∃ (p' : Option Addr) (c' : Nat), e = .returned (.tuple #[qV s (next + 1) p' (L.eraseIdx i ++ [nwx next now z none 0]).length c', .int .i64 (next + 1), .bool true, .int .i64 0]) ∧
      w'.ownsRow w.heap.size 68 12 (.slice p' (L.eraseIdx i ++ [nwx next now z none 0]).length c') (L.eraseIdx i ++ [nwx next now z none 0]).length ((L.eraseIdx i ++ [nwx next now z none 0]).flatMap wxC))))
set_option maxRecDepth 100000 in
set_option maxHeartbeats 4000000 in
theorem rfail_any (s : ByteArray) (next : Int) (L : List Wx) (p : Option Addr) (c : Nat) (a now code : Int) (g : Bool) (w : World) (hR : WR w p c L) (hl : L.length ≤ 1000) (hup : L.Pairwise fun x y => x.n < y.n) (hn : 0 ≤ next ∧ next ≤ 4611686018427387904) (hcode : I64 code) :
    Calls Tryz.prog 60 #[qV s next p L.length c, .int .i64 a, .int .i64 now, .int .i64 code, .bool g] w fun e w' => RFailP w w' s next L p c a now code g e ∧ K0 w w' := by
  refine vc_rfail s next p L.length c a now code g w _ (fun n1 n2 W hW => ?_)
  have kW : K0 w W := hW.kk rfl
  have hw1 := block_lt (hW.cells 1 rfl)
  have hw2 := block_lt (hW.cells 0 rfl)
  simp only at hw1 hw2
  have hz2 : w.heap.size ≤ n2 := hW.fresh 0 rfl rfl
  have hz1 : w.heap.size ≤ n1 := hW.fresh 1 rfl rfl
  have h21 : n2 ≠ n1 := hW.apart 0 1 rfl rfl (by decide)
  refine ⟨(rfind_any s next L p c a W (hR.k0 kW) hl).mono fun e w1 ⟨h, k1⟩ => ?_⟩
  rcases h with ⟨he, hno⟩ | ⟨i, y, he, hy, hya⟩
  · refine ⟨_, he, .of_k0 k1, bsp_intro (fun _ => fun W2 hW2 => ?_) (fun h => by simp at h)⟩
    exact ⟨.inl ⟨rfl, hno⟩, hW2.k0 (kW.trans k1)⟩
  refine ⟨_, he, .of_k0 k1, bsp_intro (fun h => by simp at h; omega) (fun _ => bsp_intro (fun h => fun W2 hW2 => ?_) (fun h => ?_))⟩
  · exact ⟨.inr ⟨i, y, hy, hya, .inl ⟨by simpa using h, rfl⟩⟩, hW2.k0 (kW.trans k1)⟩
  have hmin : minB now = true := by simpa using h
  have hmin' := hmin
  simp only [minB, Bool.and_eq_true, decide_eq_true_eq] at hmin'
  intro n3 W2 hW2
  have hi : i < L.length := (List.getElem?_eq_some_iff.1 hy).1
  have hym := List.mem_of_getElem? hy
  obtain ⟨hy0, hy1, hy2, hy3⟩ := hR.ok y hym
  obtain ⟨z1, z2, z3, z4, z5, z6, z7, z8, z9, z10, z11, z12⟩ := chkM_bd hy0
  have hp7 := pow7 y.f.toNat (by omega)
  have k2 : K0 w1 W2 := hW2.kk rfl
  have k02 := (kW.trans k1).trans k2
  have hl1 : n1 < w1.heap.size := Nat.lt_of_lt_of_le hw1 k1.size
  have hl2 : n2 < w1.heap.size := Nat.lt_of_lt_of_le hw2 k1.size
  have g3 : w1.heap.size ≤ n3 := hW2.fresh 0 rfl rfl
  have hR2 := hR.k0 k02
  refine ⟨w1.heap.size, [], L.flatMap wxC, own_none g3 (hW2.cells 0 rfl), WR.len, hR2.src, by omega, by omega, k2.size, fun p4 c4 w4 ho4 hg4 _ => ⟨.of_kp (kp_grown hg4) (fun z hz e => by have := own_n e; simp at hz; omega), ?_⟩⟩
  rw [Nat.zero_add] at ho4 ⊢
  rw [List.nil_append] at ho4
  have k4 : K0 w1 w4 := k2.fresh (kp_grown hg4) (fun j hj e => by have := own_n e; omega)
  have k04 := (kW.trans k1).trans k4
  have s04 : w.heap.size ≤ w1.heap.size := (kW.trans k1).size
  obtain ⟨b, rfl, _⟩ := own_wr ho4 hi
  have hno : ∀ x : Nat, x < w1.heap.size ∨ w4.heap.size ≤ x → ¬ (Value.slice (some (Addr.mk b 0 none)) L.length c4).ownBlock = some x := fun x h e => by have := own_ge ho4 e; have := own_lt ho4 e; omega
  have hat : ∀ wx : World, wx.ownsRow w1.heap.size 68 12 (.slice (some ⟨b, 0, none⟩) L.length c4) L.length (L.flatMap wxC) → AtL wx b (0 + i * 12) (wxC y) := fun wx ho => by
    obtain ⟨g', hp', h⟩ := own_at wxC ho (fun y _ => wxC_length y) (by decide) hy
    cases hp'
    exact h
  have e1 : IntKind.i64.wrap (y.f + 1) = y.f + 1 := wr64 (by omega) (by omega)
  have e5 : IntKind.i64.wrap (now + 5) = now + 5 := wr64 (by omega) (by omega)
  refine nn_is rfl ⟨⟨by omega, by omega⟩, y.n, y.due, y.f, y.m.fu, y.m.fs, y.m.tu, y.m.ts, y.m.n, y.m.d, y.m.sj, y.p, y.m.hops.length, y.c, y.m.bd, fun W5 hW5 => ?_, fun n5 => ?_⟩
  · rw [Int.toNat_natCast]
    refine hat _ (own_loc ho4 hW5 (fun x hx => hno _ (.inl ?_)))
    simp at hx
    rcases hx with rfl | rfl
    · exact hl2
    · exact hl1
  rw [e1, e5, Int.toNat_natCast]
  refine ⟨y.f + 1, gimp_intro fun _ => fun W5 hW5 => cell_at (hW5.cells 0 rfl) rfl, bsp_intro (fun hb => ?_) (fun hb => ?_)⟩
  · -- it stays
    simp only [Bool.and_eq_true, Bool.not_eq_true', decide_eq_true_eq] at hb
    intro W5 hW5
    have g5 : w4.heap.size ≤ n5 := hW5.fresh 0 rfl rfl
    have hb5 : W5.heap[n5]? = some (.cells #[.int .i64 y.n, .int .i64 (now + 5), .int .i64 (y.f + 1), .string y.m.fu, .string y.m.fs, .string y.m.tu, .string y.m.ts, .int .i64 y.m.n, .int .i64 y.m.d, .string y.m.sj, .slice y.p y.m.hops.length y.c, .string y.m.bd] 68 (0, 0)) := hW5.cells 0 rfl
    have ho5 := own_loc ho4 hW5 (fun x hx => hno _ (by
      simp at hx
      rcases hx with rfl | rfl | rfl
      · exact .inr g5
      · exact .inl hl2
      · exact .inl hl1))
    have k05 : K0 w W5 := hW5.k0 k04
    have s45 := k4.size
    have sz5 : w4.heap.size ≤ W5.heap.size := hW5.kp.size
    refine ⟨fun vs w' => ∃ j : Nat, vs = [.int .i64 ((j : Int) + 1)] ∧ j ≤ y.f.toNat ∧ w'.heap[n5]? = some (.cells #[.int .i64 y.n, .int .i64 (now + 5 * 2 ^ j), .int .i64 (y.f + 1), .string y.m.fu, .string y.m.fs, .string y.m.tu, .string y.m.ts, .int .i64 y.m.n, .int .i64 y.m.d, .string y.m.sj, .slice y.p y.m.hops.length y.c, .string y.m.bd] 68 (0, 0)) ∧ Kp (· = n5) W5 w',
      fun vs _ => (match vs with | .int _ a :: _ => y.f.toNat + 1 - a.toNat | _ => 0), ⟨0, rfl, by omega, hb5, .refl _ _⟩, ?_⟩
    rintro x w6 ⟨j, hv, hj, hc6, k6⟩ hL6
    simp only [List.cons.injEq, Value.int.injEq, true_and, and_true] at hv
    subst hv
    have hpj := pow7 j (by omega)
    refine ⟨y.f + 1, cell_at hc6 rfl, bsp_intro (fun hlt => ?_) (fun hge => ?_)⟩
    · have hlt : j < y.f.toNat := by simp at hlt; omega
      have e6 : (2 : Int) ^ (j + 1) = 2 * 2 ^ j := by rw [Int.pow_succ]; omega
      have ew : IntKind.i64.wrap (now + IntKind.i64.wrap (2 * IntKind.i64.wrap (now + 5 * 2 ^ j - now))) = now + 5 * 2 ^ (j + 1) := by
        rw [wr64 (x := now + 5 * 2 ^ j - now) (by omega) (by omega), wr64 (x := 2 * (now + 5 * 2 ^ j - now)) (by omega) (by omega), wr64 (by omega) (by omega), e6]; omega
      have e7 : IntKind.i64.wrap ((j : Int) + 1 + 1) = ((j + 1 : Nat) : Int) + 1 := by rw [wr64 (by omega) (by omega)]; omega
      refine ⟨now + 5 * 2 ^ j, cell_at hc6 rfl, cell_wr hc6 (by show 1 < 12; omega), fun w7 h7 => ⟨.of_kp h7.kp (fun z hz e => ?_), ⟨j + 1, by rw [e7], by omega, ?_, k6.trans h7.kp⟩, ?_⟩⟩
      · simp at hz; omega
      · rw [ew] at h7
        rw [h7.block hc6]; rfl
      · rw [e7]; simp only; omega
    · have hj' : j = y.f.toNat := by simp at hge; omega
      subst hj'
      have ho6 := owns_kp ho5 k6 (fun k hk e => by have e : k = n5 := e; rw [e] at hk; exact hno n5 (.inr g5) hk)
      obtain ⟨b', hpb, hwr⟩ := own_wr ho6 hi
      cases hpb
      refine ⟨y.n, now + 5 * 2 ^ y.f.toNat, y.f + 1, y.m.fu, y.m.fs, y.m.tu, y.m.ts, y.m.n, y.m.d, y.m.sj, y.p, y.m.hops.length, y.c, y.m.bd, AtL_block hc6 rfl, nn_is rfl ⟨⟨by omega, by omega⟩, hwr, fun w8 h8 => ⟨.of_kp h8.kp (fun z hz e => ?_), fun W9 hW9 => ?_⟩⟩⟩
      · subst e
        simp at hz
        exact hno z (.inl (by omega)) rfl
      have ho8 := own_set (y := updW y now) ho6 rfl wxC_length (by decide) hi h8
      have es : (L.set i (updW y now)).length = L.length := by simp
      refine ⟨.inr ⟨i, y, hy, hya, .inr (.inl ⟨hmin, hb.1, hb.2, some ⟨b, 0, none⟩, c4, by rw [es], ?_⟩)⟩, ?_⟩
      · rw [es]
        refine own_base (own_loc ho8 hW9 (fun x hx e => hno x.n (.inl ?_) e)) s04
        simp at hx
        rcases hx with rfl | rfl
        · exact hl2
        · exact hl1
      · have kb : w1.heap.size ≤ b := own_ge ho4 rfl
        refine hW9.k0 (((k05.fresh k6 (fun q hq e => by omega))).fresh h8.kp (fun q hq e => ?_))
        omega
  · -- it goes
    have hb' : g = true ∨ 8 ≤ y.f + 1 := by
      cases g with
      | true => exact .inl rfl
      | false => simp at hb; exact .inr (by omega)
    intro W5 hW5
    have g5 : w4.heap.size ≤ n5 := hW5.fresh 0 rfl rfl
    have l5 := block_lt (hW5.cells 0 rfl)
    simp only at l5
    have ho5 := own_loc ho4 hW5 (fun x hx => hno _ (by
      simp at hx
      rcases hx with rfl | rfl | rfl
      · exact .inr g5
      · exact .inl hl2
      · exact .inl hl1))
    have k05 : K0 w W5 := hW5.k0 k04
    have s45 := k4.size
    have sz5 : w4.heap.size ≤ W5.heap.size := hW5.kp.size
    have hR5 : WR W5 (some ⟨b, 0, none⟩) c4 L := WR.own ho5 (fun x hx => (hR.str x hx).k0 k05) hR.ok
    refine ⟨(rdone_any s next L _ c4 a W5 hR5 hl).mono fun e w6 ⟨h, k6⟩ => ?_⟩
    rcases h with ⟨_, hno'⟩ | ⟨i', y', p6, c6, he, hy', hn', ho6⟩
    · exact absurd hya (hno' y hym)
    obtain rfl : i = i' := uniq_at hup hy hy' (hya.trans hn'.symm)
    have k06 := k05.trans k6
    refine ⟨_, _, _, _, _, _, he, .of_k0 k6, fun W7 hW7 => ?_⟩
    have k07 : K0 w W7 := hW7.k0 k06
    have hnn : ∀ x : Nat, x < W5.heap.size ∨ w6.heap.size ≤ x → ¬ (Value.slice p6 (L.eraseIdx i).length c6).ownBlock = some x := fun x h e => by have := own_ge ho6 e; have := own_lt ho6 e; omega
    have ho7 := own_loc ho6 hW7 (fun x hx => hnn _ (.inl (by
      simp at hx
      rcases hx with rfl | rfl | rfl
      · exact l5
      · show n2 < _; omega
      · show n1 < _; omega)))
    have sz7 : w6.heap.size ≤ W7.heap.size := hW7.kp.size
    have hB := @bnc_get y.m s code now hcode
    refine ⟨(xbounce_any y.m y.p y.c s code now W7 ((hR.str y hym).k0 k07) hy1 (szM_of hy0) (by omega) hcode).mono fun e w8 ⟨he, k8⟩ => ⟨_, _, _, _, _, _, _, _, _, _, _, _, he, .of_k0 k8, fun n9 => ?_⟩⟩
    have ho8 := owns_kp ho7 k8 (fun _ _ h => h)
    have s58 : W5.heap.size ≤ w8.heap.size := Nat.le_trans k6.size (Nat.le_trans sz7 k8.size)
    have hn8 : ∀ x : Nat, x < W5.heap.size ∨ w8.heap.size ≤ x → ¬ (Value.slice p6 (L.eraseIdx i).length c6).ownBlock = some x := fun x h e => by have := own_ge ho8 e; have := own_lt ho8 e; omega
    cases hbq : bncM y.m s code now with
    | none =>
      refine bsp_intro (fun _ => fun W10 hW10 => ?_) (fun h => by simp at h)
      refine ⟨.inr ⟨i, y, hy, hya, .inr (.inr (.inl ⟨hmin, hb', hbq, p6, c6, rfl, ?_⟩))⟩, hW10.k0 (k07.trans k8)⟩
      have g9 : w8.heap.size ≤ n9 := hW10.fresh 0 rfl rfl
      refine own_base (own_loc ho8 hW10 (fun x hx => hn8 _ ?_)) k05.size
      simp at hx
      rcases hx with rfl | rfl | rfl | rfl
      · exact .inr g9
      · exact .inl l5
      · exact .inl (show n2 < _ by omega)
      · exact .inl (show n1 < _ by omega)
    | some z =>
      refine bsp_intro (fun h => by simp at h) (fun _ => fun W10 hW10 => ?_)
      rw [hbq] at hB
      have k10 : K0 w8 W10 := hW10.kk rfl
      have k010 := (k07.trans k8).trans k10
      have ho10 := owns_kp ho8 k10 (fun _ _ h => h)
      have hR10 : WR W10 p6 c6 (L.eraseIdx i) := WR.own ho10 (fun x hx => (hR.str x ((List.eraseIdx_sublist _ _).subset hx)).k0 k010) (fun x hx => hR.ok x ((List.eraseIdx_sublist _ _).subset hx))
      have hel : (L.eraseIdx i).length = L.length - 1 := List.length_eraseIdx_of_lt hi
      have l9 := block_lt (hW10.cells 0 rfl)
      simp only at l9
      refine ⟨(rput_any s next (L.eraseIdx i) p6 c6 z none 0 now W10 hR10 (by omega) hn).mono fun e w11 ⟨⟨p12, c12, he, ho11⟩, k11⟩ => ⟨_, _, _, _, _, he, .of_k0 k11, fun W13 hW13 => ?_⟩⟩
      have hb2 : W13.heap[n2]? = some (.cells #[.string ⟨#[]⟩, .int .i64 0, .slice none 0 0] 62 (0, 0)) := hW13.cells 2 rfl
      have hb1 : W13.heap[n1]? = some (.cells #[.string s, .int .i64 (next + 1), .slice p12 (L.eraseIdx i ++ [nwx next now z none 0]).length c12] 62 (0, 0)) := hW13.cells 3 rfl
      have h92 : n9 ≠ n2 := hW13.apart 0 2 rfl rfl (by decide)
      have h52 : n5 ≠ n2 := hW13.apart 1 2 rfl rfl (by decide)
      have s810 := k10.size
      have ho13 := own_loc ho11 hW13 (fun x hx e => by
        have h1 := own_ge ho11 e
        simp at hx
        rcases hx with rfl | rfl | rfl | rfl <;> (simp only at h1; omega))
      refine ⟨fun wx => wx.heap[n1]? = W13.heap[n1]?, rfl, s, next + 1, p12, (L.eraseIdx i ++ [nwx next now z none 0]).length, c12, fun wx k => AtL_block (k.trans hb1) rfl, next + 1, fun wx k => cell_at (k.trans hb1) rfl, WrL_block hb2 (Nat.le_refl 3), fun w14 h14 => ⟨?_, ⟨by rw [h14.size]; exact Nat.le_refl _, fun q hq hlt => ?_⟩, s, next + 1, p12, _, c12, AtL_block (h14.full hb2 rfl) rfl, .inr ⟨i, y, hy, hya, .inr (.inr (.inr ⟨hmin, hb', z, hbq, p12, c12, rfl, ?_⟩))⟩, ?_⟩⟩
      · show w14.heap[n1]? = _
        rw [h14.kp.block n1 (block_lt hb1) (fun e => h21 e.symm)]
      · have hq : q = n9 ∨ q = n5 ∨ q = n1 := by simpa using hq
        rw [h14.kp.block q hlt (fun e => by omega)]
      · refine own_base (owns_kp ho13 h14.kp (fun k hk e => ?_)) k010.size
        have := own_ge ho13 hk; omega
      · exact put_k0 (hW13.k0 (k010.trans k11)) h14 hz2

end Go.Proofs.YtmlmdljnfokebaaGreatDoor

/- The formulas of functions by the symbolic evaluator, and that each gives the call's contract. Written by a program (gen.py). No condition. -/
namespace Go.Proofs.YtmlmdljnfokebaaGreatDoor
set_option maxRecDepth 100000
set_option linter.unusedVariables false

def VC_lplay (s : ByteArray) (p : Option Addr) (k : Nat) (c : Nat) (w : World) (R : Ending → World → Prop) : Prop :=
 ∀ (n : Nat) (W : World),
 Loc w.heap.size [Blk.mk n 62 [Value.string (ByteArray.mk #[]), Value.int IntKind.i64 0, Value.slice none 0 0] 2] w W →
 CallsS Tryz.prog 17 #[Value.string s] W fun (e : Ending) (w' : World) =>
 ∃ (x : Option Addr),
 ∃ (x_1 : Int),
 e = Ending.returned (Value.tuple #[Value.pointer x, Value.int IntKind.i64 x_1]) ∧
 KeptL [n] W w' ∧
 bsp (x_1 != 0 || x.isNone)
 (∀ (W : World),
 Loc w.heap.size [Blk.mk n 62 [Value.string s, Value.int IntKind.i64 0, Value.slice none 0 0] (wrM (wrM 0))] w'
 W →
 R
 (Ending.returned
 (Value.tuple
 #[Value.pointer x, Value.agg #[Value.string s, Value.int IntKind.i64 0, Value.slice none 0 0],
 Value.bool false]))
 W)
 (∀ (W : World),
 Loc w.heap.size [Blk.mk n 62 [Value.string s, Value.int IntKind.i64 0, Value.slice none 0 0] (wrM 0)] w' W →
 ∃ (I : List Value → World → Prop),
 ∃ (m : List Value → World → Nat),
 I [Value.pointer x, Value.int IntKind.i64 0] W ∧
 ∀ (x : Option Addr) (x_2 : Int) (w' : World),
 I [Value.pointer x, Value.int IntKind.i64 x_2] w' →
 bsp (decide (x_2 < (↑k : Int)) && decide (x_2 < 30))
 (nn true p fun (b o : Nat) =>
 (0 ≤ x_2 ∧ x_2 < (↑k : Int)) ∧
 ∃ (x_3 : Int),
 ∃ (x_4 : ByteArray),
 ∃ (x_5 : ByteArray),
 ∃ (x_6 : ByteArray),
 ∃ (x_7 : ByteArray),
 ∃ (x_8 : Int),
 ∃ (x_9 : Int),
 ∃ (x_10 : ByteArray),
 ∃ (p : Option Addr),
 ∃ (n_1 : Nat),
 ∃ (c : Nat),
 ∃ (x_11 : ByteArray),
 ∃ (x_12 : Int),
 ∃ (x_13 : Int),
 ∃ (x_14 : Int),
 ∃ (x_15 : Bool),
 AtL w' b (o + x_2.toNat * 14)
 [Value.int IntKind.u8 x_3, Value.string x_4, Value.string x_5, Value.string x_6,
 Value.string x_7, Value.int IntKind.i64 x_8, Value.int IntKind.i64 x_9,
 Value.string x_10, Value.slice p n_1 c, Value.string x_11,
 Value.int IntKind.i64 x_12, Value.int IntKind.i64 x_13, Value.int IntKind.i64 x_14,
 Value.bool x_15] ∧
 ∀ (n_2 : Nat),
 bsp (x_3.tmod 3 == 0)
 (∀ (W : World),
 Loc w.heap.size
 [Blk.mk n_2 71
 [Value.int IntKind.u8 x_3, Value.string x_4, Value.string x_5,
 Value.string x_6, Value.string x_7, Value.int IntKind.i64 x_8,
 Value.int IntKind.i64 x_9, Value.string x_10, Value.slice p n_1 c,
 Value.string x_11, Value.int IntKind.i64 x_12, Value.int IntKind.i64 x_13,
 Value.int IntKind.i64 x_14, Value.bool x_15]
 (wrM 2)]
 w' W →
 CallsS Tryz.prog 14
 #[Value.agg
 #[Value.string x_4, Value.string x_5, Value.string x_6, Value.string x_7,
 Value.int IntKind.i64 x_8, Value.int IntKind.i64 x_9, Value.string x_10,
 Value.slice p n_1 c, Value.string x_11]]
 W fun (e : Ending) (w'_1 : World) =>
 ∃ (x_16 : ByteArray),
 ∃ (x_17 : ByteArray),
 ∃ (x_18 : ByteArray),
 ∃ (x_19 : ByteArray),
 ∃ (x_20 : Int),
 ∃ (x_21 : Int),
 ∃ (x_22 : ByteArray),
 ∃ (p_1 : Option Addr),
 ∃ (n_3 : Nat),
 ∃ (c_1 : Nat),
 ∃ (x_23 : ByteArray),
 e =
 Ending.returned
 (Value.agg
 #[Value.string x_16, Value.string x_17, Value.string x_18,
 Value.string x_19, Value.int IntKind.i64 x_20,
 Value.int IntKind.i64 x_21, Value.string x_22,
 Value.slice p_1 n_3 c_1, Value.string x_23]) ∧
 KeptL [n_2] W w'_1 ∧
 ∀ (n_4 : Nat) (W : World),
 Loc w.heap.size
 [Blk.mk n_4 26
 [Value.string x_16, Value.string x_17, Value.string x_18,
 Value.string x_19, Value.int IntKind.i64 x_20,
 Value.int IntKind.i64 x_21, Value.string x_22,
 Value.slice p_1 n_3 c_1, Value.string x_23]
 (wrM 2),
 Blk.mk n_2 71
 [Value.int IntKind.u8 x_3, Value.string x_4, Value.string x_5,
 Value.string x_6, Value.string x_7,
 Value.int IntKind.i64 x_8, Value.int IntKind.i64 x_9,
 Value.string x_10, Value.slice p n_1 c, Value.string x_11,
 Value.int IntKind.i64 x_12, Value.int IntKind.i64 x_13,
 Value.int IntKind.i64 x_14, Value.bool x_15]
 0]
 w'_1 W →
 CallsS Tryz.prog 18
 #[Value.pointer x,
 Value.agg
 #[Value.string x_16, Value.string x_17, Value.string x_18,
 Value.string x_19, Value.int IntKind.i64 x_20,
 Value.int IntKind.i64 x_21, Value.string x_22,
 Value.slice p_1 n_3 c_1, Value.string x_23],
 Value.int IntKind.i64 x_13]
 W fun (e : Ending) (w'_2 : World) =>
 ∃ (x_24 : Int),
 ∃ (x_25 : Int),
 e =
 Ending.returned
 (Value.tuple
 #[Value.int IntKind.i64 x_24,
 Value.int IntKind.i64 x_25]) ∧
 KeptL [n_4, n_2] W w'_2 ∧
 ∀ (W : World),
 Loc w.heap.size
 [Blk.mk n_4 26
 [Value.string x_16, Value.string x_17,
 Value.string x_18, Value.string x_19,
 Value.int IntKind.i64 x_20,
 Value.int IntKind.i64 x_21, Value.string x_22,
 Value.slice p_1 n_3 c_1, Value.string x_23]
 0,
 Blk.mk n_2 71
 [Value.int IntKind.u8 x_3, Value.string x_4,
 Value.string x_5, Value.string x_6, Value.string x_7,
 Value.int IntKind.i64 x_8, Value.int IntKind.i64 x_9,
 Value.string x_10, Value.slice p n_1 c,
 Value.string x_11, Value.int IntKind.i64 x_12,
 Value.int IntKind.i64 x_13,
 Value.int IntKind.i64 x_14, Value.bool x_15]
 0]
 w'_2 W →
 ∃ (S : World → Prop),
 S W ∧
 ∃ (x_26 : ByteArray),
 ∃ (x_27 : Int),
 ∃ (p_2 : Option Addr),
 ∃ (n_5 : Nat),
 ∃ (c_2 : Nat),
 (∀ (w' : World),
 S w' →
 AtL w' n 0
 [Value.string x_26, Value.int IntKind.i64 x_27,
 Value.slice p_2 n_5 c_2]) ∧
 ∃ (x_28 : ByteArray),
 ∃ (x_29 : ByteArray),
 ∃ (x_30 : ByteArray),
 ∃ (x_31 : ByteArray),
 ∃ (x_32 : Int),
 ∃ (x_33 : Int),
 ∃ (x_34 : ByteArray),
 ∃ (p_3 : Option Addr),
 ∃ (n_6 : Nat),
 ∃ (c_3 : Nat),
 ∃ (x_35 : ByteArray),
 (∀ (w' : World),
 S w' →
 AtL w' n_4 0
 [Value.string x_28,
 Value.string x_29,
 Value.string x_30,
 Value.string x_31,
 Value.int IntKind.i64 x_32,
 Value.int IntKind.i64 x_33,
 Value.string x_34,
 Value.slice p_3 n_6 c_3,
 Value.string x_35]) ∧
 ∃ (x_36 : Int),
 (∀ (w' : World),
 S w' →
 w'.cell?
 (Addr.mk n_2 (0 + 11) none) =
 some
 (Value.int IntKind.i64 x_36)) ∧
 CallsS Tryz.prog 11
 #[Value.agg
 #[Value.string x_28,
 Value.string x_29,
 Value.string x_30,
 Value.string x_31,
 Value.int IntKind.i64 x_32,
 Value.int IntKind.i64 x_33,
 Value.string x_34,
 Value.slice p_3 n_6 c_3,
 Value.string x_35]]
 W
 fun (e : Ending) (w'_3 : World) =>
 ∃ (x_37 : ByteArray),
 ∃ (x_38 : ByteArray),
 ∃ (x_39 : ByteArray),
 ∃ (x_40 : ByteArray),
 ∃ (x_41 : Int),
 ∃ (x_42 : Int),
 ∃ (x_43 : ByteArray),
 ∃ (p_4 : Option Addr),
 ∃ (n_7 : Nat),
 ∃ (c_4 : Nat),
 ∃ (x_44 : ByteArray),
 e =
 Ending.returned
 (Value.agg
 #[Value.string x_37,
 Value.string x_38,
 Value.string x_39,
 Value.string x_40,
 Value.int
 IntKind.i64 x_41,
 Value.int
 IntKind.i64 x_42,
 Value.string x_43,
 Value.slice p_4 n_7
 c_4,
 Value.string
 x_44]) ∧
 S w'_3 ∧
 CallsS Tryz.prog 58
 #[Value.agg
 #[Value.string
 x_26,
 Value.int
 IntKind.i64 x_27,
 Value.slice p_2
 n_5 c_2],
 Value.agg
 #[Value.string
 x_37,
 Value.string x_38,
 Value.string x_39,
 Value.string x_40,
 Value.int
 IntKind.i64 x_41,
 Value.int
 IntKind.i64 x_42,
 Value.string x_43,
 Value.slice p_4
 n_7 c_4,
 Value.string
 x_44],
 Value.int
 IntKind.i64 x_36]
 w'_3
 fun (e : Ending)
 (w'_4 : World) =>
 ∃ (x_45 : ByteArray),
 ∃ (x_46 : Int),
 ∃ (p_5 :
 Option Addr),
 ∃ (n_8 : Nat),
 ∃ (c_5 : Nat),
 ∃ (x_47 : Int),
 ∃ (x_48 : Int),
 e =
 Ending.returned
 (Value.tuple
 #[Value.agg
 #[Value.string
 x_45,
 Value.int
 IntKind.i64
 x_46,
 Value.slice
 p_5
 n_8
 c_5],
 Value.int
 IntKind.i64
 x_47,
 Value.int
 IntKind.i64
 x_48]) ∧
 WrL w'_4 n 0
 3 ∧
 ∀
 (w1 :
 World),
 PutB w'_4 n
 0
 [Value.string
 x_45,
 Value.int
 IntKind.i64
 x_46,
 Value.slice
 p_5 n_8
 c_5]
 w1 →
 KeptL
 [n_4,
 n_2]
 W w1 ∧
 bsp
 (x_24 !=
 x_47 ||
 !false ==
 false ||
 x_25 !=
 x_48)
 (∃ (x_49
 :
 ByteArray),
 ∃ (x_50
 :
 Int),
 ∃ (p_6
 :
 Option
 Addr),
 ∃
 (n_9
 :
 Nat),
 ∃
 (c_6
 :
 Nat),
 (∀
 (W :
 World),
 Loc
 w.heap.size
 [Blk.mk
 n_4
 26
 [Value.string
 x_16,
 Value.string
 x_17,
 Value.string
 x_18,
 Value.string
 x_19,
 Value.int
 IntKind.i64
 x_20,
 Value.int
 IntKind.i64
 x_21,
 Value.string
 x_22,
 Value.slice
 p_1
 n_3
 c_1,
 Value.string
 x_23]
 0,
 Blk.mk
 n_2
 71
 [Value.int
 IntKind.u8
 x_3,
 Value.string
 x_4,
 Value.string
 x_5,
 Value.string
 x_6,
 Value.string
 x_7,
 Value.int
 IntKind.i64
 x_8,
 Value.int
 IntKind.i64
 x_9,
 Value.string
 x_10,
 Value.slice
 p
 n_1
 c,
 Value.string
 x_11,
 Value.int
 IntKind.i64
 x_12,
 Value.int
 IntKind.i64
 x_13,
 Value.int
 IntKind.i64
 x_14,
 Value.bool
 x_15]
 0]
 w1
 W →
 AtL
 W
 n
 0
 [Value.string
 x_49,
 Value.int
 IntKind.i64
 x_50,
 Value.slice
 p_6
 n_9
 c_6]) ∧
 ∀
 (W :
 World),
 Loc
 w.heap.size
 [Blk.mk
 n_4
 26
 [Value.string
 x_16,
 Value.string
 x_17,
 Value.string
 x_18,
 Value.string
 x_19,
 Value.int
 IntKind.i64
 x_20,
 Value.int
 IntKind.i64
 x_21,
 Value.string
 x_22,
 Value.slice
 p_1
 n_3
 c_1,
 Value.string
 x_23]
 0,
 Blk.mk
 n_2
 71
 [Value.int
 IntKind.u8
 x_3,
 Value.string
 x_4,
 Value.string
 x_5,
 Value.string
 x_6,
 Value.string
 x_7,
 Value.int
 IntKind.i64
 x_8,
 Value.int
 IntKind.i64
 x_9,
 Value.string
 x_10,
 Value.slice
 p
 n_1
 c,
 Value.string
 x_11,
 Value.int
 IntKind.i64
 x_12,
 Value.int
 IntKind.i64
 x_13,
 Value.int
 IntKind.i64
 x_14,
 Value.bool
 x_15]
 0]
 w1
 W →
 WrL
 W
 n
 0
 3 ∧
 ∀
 (w1 :
 World),
 PutB
 W
 n
 0
 [Value.string
 x_49,
 Value.int
 IntKind.i64
 x_50,
 Value.slice
 p_6
 n_9
 c_6]
 w1 →
 KeptL
 [n_4,
 n_2]
 W
 w1 ∧
 ∃
 (x_51
 :
 ByteArray),
 ∃
 (x_52
 :
 Int),
 ∃
 (p
 :
 Option
 Addr),
 ∃
 (n_10
 :
 Nat),
 ∃
 (c
 :
 Nat),
 AtL
 w1
 n
 0
 [Value.string
 x_51,
 Value.int
 IntKind.i64
 x_52,
 Value.slice
 p
 n_10
 c] ∧
 R
 (Ending.returned
 (Value.tuple
 #[Value.pointer
 x,
 Value.agg
 #[Value.string
 x_51,
 Value.int
 IntKind.i64
 x_52,
 Value.slice
 p
 n_10
 c],
 Value.bool
 false]))
 w1)
 (I
 [Value.pointer
 x,
 Value.int
 IntKind.i64
 (IntKind.i64.wrap
 (x_2 +
 1))]
 w1 ∧
 m
 [Value.pointer
 x,
 Value.int
 IntKind.i64
 (IntKind.i64.wrap
 (x_2 +
 1))]
 w1 <
 m
 [Value.pointer
 x,
 Value.int
 IntKind.i64
 x_2]
 w'))
 (bsp (x_3.tmod 3 == 1)
 (∀ (W : World),
 Loc w.heap.size
 [Blk.mk n_2 71
 [Value.int IntKind.u8 x_3, Value.string x_4, Value.string x_5,
 Value.string x_6, Value.string x_7, Value.int IntKind.i64 x_8,
 Value.int IntKind.i64 x_9, Value.string x_10, Value.slice p n_1 c,
 Value.string x_11, Value.int IntKind.i64 x_12, Value.int IntKind.i64 x_13,
 Value.int IntKind.i64 x_14, Value.bool x_15]
 (wrM 2)]
 w' W →
 CallsS Tryz.prog 30 #[Value.pointer x, Value.int IntKind.i64 x_12] W
 fun (e : Ending) (w'_1 : World) =>
 ∃ (x_16 : Int),
 e = Ending.returned (Value.int IntKind.i64 x_16) ∧
 KeptL [n_2] W w'_1 ∧
 ∃ (x_17 : ByteArray),
 ∃ (x_18 : Int),
 ∃ (p_1 : Option Addr),
 ∃ (n_3 : Nat),
 ∃ (c_1 : Nat),
 AtL w'_1 n 0
 [Value.string x_17, Value.int IntKind.i64 x_18,
 Value.slice p_1 n_3 c_1] ∧
 CallsS Tryz.prog 59
 #[Value.agg
 #[Value.string x_17, Value.int IntKind.i64 x_18,
 Value.slice p_1 n_3 c_1],
 Value.int IntKind.i64 x_12]
 w'_1 fun (e : Ending) (w'_2 : World) =>
 ∃ (x_19 : ByteArray),
 ∃ (x_20 : Int),
 ∃ (p_2 : Option Addr),
 ∃ (n_4 : Nat),
 ∃ (c_2 : Nat),
 ∃ (x_21 : Int),
 e =
 Ending.returned
 (Value.tuple
 #[Value.agg
 #[Value.string x_19, Value.int IntKind.i64 x_20,
 Value.slice p_2 n_4 c_2],
 Value.int IntKind.i64 x_21]) ∧
 KeptL [n_2] w'_1 w'_2 ∧
 WrL w'_2 n 0 3 ∧
 ∀ (w1 : World),
 PutB w'_2 n 0
 [Value.string x_19, Value.int IntKind.i64 x_20,
 Value.slice p_2 n_4 c_2]
 w1 →
 KeptL [n_2] w'_2 w1 ∧
 bsp (0 != 0 || !false == false || x_16 != x_21)
 (∃ (x_22 : ByteArray),
 ∃ (x_23 : Int),
 ∃ (p_3 : Option Addr),
 ∃ (n_5 : Nat),
 ∃ (c_3 : Nat),
 (∀ (W : World),
 Loc w.heap.size
 [Blk.mk n_2 71
 [Value.int IntKind.u8 x_3, Value.string x_4,
 Value.string x_5, Value.string x_6,
 Value.string x_7, Value.int IntKind.i64 x_8,
 Value.int IntKind.i64 x_9,
 Value.string x_10, Value.slice p n_1 c,
 Value.string x_11,
 Value.int IntKind.i64 x_12,
 Value.int IntKind.i64 x_13,
 Value.int IntKind.i64 x_14, Value.bool x_15]
 0]
 w1 W →
 AtL W n 0
 [Value.string x_22, Value.int IntKind.i64 x_23,
 Value.slice p_3 n_5 c_3]) ∧
 ∀ (W : World),
 Loc w.heap.size
 [Blk.mk n_2 71
 [Value.int IntKind.u8 x_3, Value.string x_4,
 Value.string x_5, Value.string x_6,
 Value.string x_7, Value.int IntKind.i64 x_8,
 Value.int IntKind.i64 x_9,
 Value.string x_10, Value.slice p n_1 c,
 Value.string x_11,
 Value.int IntKind.i64 x_12,
 Value.int IntKind.i64 x_13,
 Value.int IntKind.i64 x_14, Value.bool x_15]
 0]
 w1 W →
 WrL W n 0 3 ∧
 ∀ (w1 : World),
 PutB W n 0
 [Value.string x_22,
 Value.int IntKind.i64 x_23,
 Value.slice p_3 n_5 c_3]
 w1 →
 KeptL [n_2] W w1 ∧
 ∃ (x_24 : ByteArray),
 ∃ (x_25 : Int),
 ∃ (p : Option Addr),
 ∃ (n_6 : Nat),
 ∃ (c : Nat),
 AtL w1 n 0
 [Value.string x_24,
 Value.int IntKind.i64 x_25,
 Value.slice p n_6 c] ∧
 R
 (Ending.returned
 (Value.tuple
 #[Value.pointer x,
 Value.agg
 #[Value.string x_24,
 Value.int IntKind.i64 x_25,
 Value.slice p n_6 c],
 Value.bool false]))
 w1)
 (I
 [Value.pointer x,
 Value.int IntKind.i64 (IntKind.i64.wrap (x_2 + 1))]
 w1 ∧
 m
 [Value.pointer x,
 Value.int IntKind.i64 (IntKind.i64.wrap (x_2 + 1))]
 w1 <
 m [Value.pointer x, Value.int IntKind.i64 x_2] w'))
 (∀ (W : World),
 Loc w.heap.size
 [Blk.mk n_2 71
 [Value.int IntKind.u8 x_3, Value.string x_4, Value.string x_5,
 Value.string x_6, Value.string x_7, Value.int IntKind.i64 x_8,
 Value.int IntKind.i64 x_9, Value.string x_10, Value.slice p n_1 c,
 Value.string x_11, Value.int IntKind.i64 x_12, Value.int IntKind.i64 x_13,
 Value.int IntKind.i64 x_14, Value.bool x_15]
 (wrM 2)]
 w' W →
 CallsS Tryz.prog 20
 #[Value.pointer x, Value.int IntKind.i64 x_12, Value.int IntKind.i64 x_13,
 Value.int IntKind.i64 x_14, Value.bool x_15]
 W fun (e : Ending) (w'_1 : World) =>
 ∃ (x_16 : Int),
 ∃ (x_17 : Bool),
 ∃ (x_18 : Int),
 e =
 Ending.returned
 (Value.tuple
 #[Value.int IntKind.i64 x_16, Value.bool x_17,
 Value.int IntKind.i64 x_18]) ∧
 KeptL [n_2] W w'_1 ∧
 ∃ (x_19 : ByteArray),
 ∃ (x_20 : Int),
 ∃ (p_1 : Option Addr),
 ∃ (n_3 : Nat),
 ∃ (c_1 : Nat),
 AtL w'_1 n 0
 [Value.string x_19, Value.int IntKind.i64 x_20,
 Value.slice p_1 n_3 c_1] ∧
 CallsS Tryz.prog 60
 #[Value.agg
 #[Value.string x_19, Value.int IntKind.i64 x_20,
 Value.slice p_1 n_3 c_1],
 Value.int IntKind.i64 x_12, Value.int IntKind.i64 x_13,
 Value.int IntKind.i64 x_14, Value.bool x_15]
 w'_1 fun (e : Ending) (w'_2 : World) =>
 ∃ (x_21 : ByteArray),
 ∃ (x_22 : Int),
 ∃ (p_2 : Option Addr),
 ∃ (n_4 : Nat),
 ∃ (c_2 : Nat),
 ∃ (x_23 : Int),
 ∃ (x_24 : Bool),
 ∃ (x_25 : Int),
 e =
 Ending.returned
 (Value.tuple
 #[Value.agg
 #[Value.string x_21, Value.int IntKind.i64 x_22,
 Value.slice p_2 n_4 c_2],
 Value.int IntKind.i64 x_23, Value.bool x_24,
 Value.int IntKind.i64 x_25]) ∧
 KeptL [n_2] w'_1 w'_2 ∧
 WrL w'_2 n 0 3 ∧
 ∀ (w1 : World),
 PutB w'_2 n 0
 [Value.string x_21, Value.int IntKind.i64 x_22,
 Value.slice p_2 n_4 c_2]
 w1 →
 KeptL [n_2] w'_2 w1 ∧
 bsp (x_16 != x_23 || !x_17 == x_24 || x_18 != x_25)
 (∃ (x_26 : ByteArray),
 ∃ (x_27 : Int),
 ∃ (p_3 : Option Addr),
 ∃ (n_5 : Nat),
 ∃ (c_3 : Nat),
 (∀ (W : World),
 Loc w.heap.size
 [Blk.mk n_2 71
 [Value.int IntKind.u8 x_3,
 Value.string x_4, Value.string x_5,
 Value.string x_6, Value.string x_7,
 Value.int IntKind.i64 x_8,
 Value.int IntKind.i64 x_9,
 Value.string x_10, Value.slice p n_1 c,
 Value.string x_11,
 Value.int IntKind.i64 x_12,
 Value.int IntKind.i64 x_13,
 Value.int IntKind.i64 x_14,
 Value.bool x_15]
 0]
 w1 W →
 AtL W n 0
 [Value.string x_26,
 Value.int IntKind.i64 x_27,
 Value.slice p_3 n_5 c_3]) ∧
 ∀ (W : World),
 Loc w.heap.size
 [Blk.mk n_2 71
 [Value.int IntKind.u8 x_3,
 Value.string x_4, Value.string x_5,
 Value.string x_6, Value.string x_7,
 Value.int IntKind.i64 x_8,
 Value.int IntKind.i64 x_9,
 Value.string x_10, Value.slice p n_1 c,
 Value.string x_11,
 Value.int IntKind.i64 x_12,
 Value.int IntKind.i64 x_13,
 Value.int IntKind.i64 x_14,
 Value.bool x_15]
 0]
 w1 W →
 WrL W n 0 3 ∧
 ∀ (w1 : World),
 PutB W n 0
 [Value.string x_26,
 Value.int IntKind.i64 x_27,
 Value.slice p_3 n_5 c_3]
 w1 →
 KeptL [n_2] W w1 ∧
 ∃ (x_28 : ByteArray),
 ∃ (x_29 : Int),
 ∃ (p : Option Addr),
 ∃ (n_6 : Nat),
 ∃ (c : Nat),
 AtL w1 n 0
 [Value.string x_28,
 Value.int IntKind.i64 x_29,
 Value.slice p n_6 c] ∧
 R
 (Ending.returned
 (Value.tuple
 #[Value.pointer x,
 Value.agg
 #[Value.string x_28,
 Value.int IntKind.i64 x_29,
 Value.slice p n_6 c],
 Value.bool false]))
 w1)
 (I
 [Value.pointer x,
 Value.int IntKind.i64
 (IntKind.i64.wrap (x_2 + 1))]
 w1 ∧
 m
 [Value.pointer x,
 Value.int IntKind.i64
 (IntKind.i64.wrap (x_2 + 1))]
 w1 <
 m [Value.pointer x, Value.int IntKind.i64 x_2]
 w'))))
 (∃ (x_3 : ByteArray),
 ∃ (x_4 : Int),
 ∃ (p : Option Addr),
 ∃ (n_1 : Nat),
 ∃ (c : Nat),
 (∀ (W : World),
 Loc w.heap.size [] w' W →
 AtL W n 0 [Value.string x_3, Value.int IntKind.i64 x_4, Value.slice p n_1 c]) ∧
 ∀ (W : World),
 Loc w.heap.size [] w' W →
 WrL W n 0 3 ∧
 ∀ (w1 : World),
 PutB W n 0 [Value.string x_3, Value.int IntKind.i64 x_4, Value.slice p n_1 c] w1 →
 KeptL [] W w1 ∧
 ∃ (x_5 : ByteArray),
 ∃ (x_6 : Int),
 ∃ (p : Option Addr),
 ∃ (n_2 : Nat),
 ∃ (c : Nat),
 AtL w1 n 0 [Value.string x_5, Value.int IntKind.i64 x_6, Value.slice p n_2 c] ∧
 R
 (Ending.returned
 (Value.tuple
 #[Value.pointer x,
 Value.agg #[Value.string x_5, Value.int IntKind.i64 x_6, Value.slice p n_2 c],
 Value.bool true]))
 w1))
theorem vc_lplay (s : ByteArray) (p : Option Addr) (k : Nat) (c : Nat) (w : World) (R : Ending → World → Prop) (h : VC_lplay s p k c w R) : Calls Tryz.prog 24 ([Value.string
    s,
  Value.slice p k c] : List Value).toArray w R := by
  have e : execR2 { P := Tryz.prog, loops := [(6, [(4, Ck.ptr), (8, Ck.int IntKind.i64)])], pur := purM, tails := [(4, 3), (18, 2), (23, 3), (24, 3)], joins := [], boxes := [] } Tryz.f24.results.toList R (Tryz.f24.body.getD .skip) (initF [Value.string
    s,
  Value.slice p k
    c] (Tryz.f24.ntmps - ([Value.string s,
  Value.slice p k c] : List Value).length)) w = VC_lplay s p k c w R := by kernel_rfl
  have hb : Tryz.f24.body = some (Tryz.f24.body.getD .skip) := by kernel_rfl
  exact calls_of_exec2' (P := Tryz.prog) (fn := Tryz.f24) (c := Tryz.f24.body.getD .skip) (args := [Value.string s,
  Value.slice p k c]) (w := w) (R := R) purM_ok Tryz.func24 hb e h

def VC_lqueues (s : ByteArray) (p : Option Addr) (k : Nat) (c : Nat) (x : Int) (now : Int) (w : World) (R : Ending → World → Prop) : Prop :=
 ((0 ≤ if 60 < (↑s.size : Int) then 60 else (↑s.size : Int)) ∧
 (if 60 < (↑s.size : Int) then 60 else (↑s.size : Int)) ≤ (↑s.size : Int)) ∧
 CallsS Tryz.prog 13 #[] w fun (e : Ending) (w' : World) =>
 ∃ (x_1 : Bool),
 e = Ending.returned (Value.bool x_1) ∧
 KeptL [] w w' ∧
 bsp (!x_1) (R (Ending.returned (Value.bool false)) w')
 (CallsS Tryz.prog 23 #[Value.string (s.extract 0 (if 60 < (↑s.size : Int) then 60 else (↑s.size : Int)).toNat)] w'
 fun (e : Ending) (w'_1 : World) =>
 ∃ (x_2 : Bool),
 e = Ending.returned (Value.bool x_2) ∧
 KeptL [] w' w'_1 ∧
 bsp (!x_2)
 (CallsS Tryz.prog 17
 #[Value.string (s.extract 0 (if 60 < (↑s.size : Int) then 60 else (↑s.size : Int)).toNat)] w'_1
 fun (e : Ending) (w' : World) =>
 ∃ (x : Option Addr),
 ∃ (x_3 : Int),
 e = Ending.returned (Value.tuple #[Value.pointer x, Value.int IntKind.i64 x_3]) ∧
 KeptL [] w'_1 w' ∧ R (Ending.returned (Value.bool (x.isNone && x_3 != 0))) w')
 (CallsS Tryz.prog 24
 #[Value.string (s.extract 0 (if 60 < (↑s.size : Int) then 60 else (↑s.size : Int)).toNat),
 Value.slice p k c]
 w'_1 fun (e : Ending) (w' : World) =>
 ∃ (x_3 : Option Addr),
 ∃ (x_4 : ByteArray),
 ∃ (x_5 : Int),
 ∃ (p : Option Addr),
 ∃ (n : Nat),
 ∃ (c : Nat),
 ∃ (x_6 : Bool),
 e =
 Ending.returned
 (Value.tuple
 #[Value.pointer x_3, Value.agg #[Value.string x_4, Value.int IntKind.i64 x_5, Value.slice p n c],
 Value.bool x_6]) ∧
 KeptL [] w'_1 w' ∧
 ∀ (n_1 : Nat) (W : World),
 Loc w.heap.size
 [Blk.mk n_1 62 [Value.string x_4, Value.int IntKind.i64 x_5, Value.slice p n c] (wrM 2)] w' W →
 ∃ (S : World → Prop),
 S W ∧
 ∃ (p_1 : Option Addr),
 ∃ (n_2 : Nat),
 ∃ (c_1 : Nat),
 gimp (!!x_6)
 (∀ (w' : World),
 S w' → w'.cell? (Addr.mk n_1 (0 + 2) none) = some (Value.slice p_1 n_2 c_1)) ∧
 bsp (!!x_6)
 (CallsS Tryz.prog 19 #[Value.pointer x_3] W fun (e : Ending) (w' : World) =>
 ∃ (x_7 : Int),
 e = Ending.returned (Value.int IntKind.i64 x_7) ∧
 S w' ∧
 KeptL [n_1] W w' ∧
 bsp (false || x_7 != (↑n_2 : Int)) (R (Ending.returned (Value.bool false)) w')
 (∀ (W : World),
 Loc w.heap.size
 [Blk.mk n_1 62 [Value.string x_4, Value.int IntKind.i64 x_5, Value.slice p n c]
 0]
 w' W →
 ∃ (S : World → Prop),
 S W ∧
 ∃ (x_8 : ByteArray),
 ∃ (x_9 : Int),
 ∃ (p_2 : Option Addr),
 ∃ (n_3 : Nat),
 ∃ (c_2 : Nat),
 (∀ (w' : World),
 S w' →
 AtL w' n_1 0
 [Value.string x_8, Value.int IntKind.i64 x_9,
 Value.slice p_2 n_3 c_2]) ∧
 CallsS Tryz.prog 22 #[Value.pointer x_3, Value.int IntKind.i64 now] W
 fun (e : Ending) (w' : World) =>
 ∃ (p_3 : Option Addr),
 ∃ (n_4 : Nat),
 ∃ (c_3 : Nat),
 e = Ending.returned (Value.slice p_3 n_4 c_3) ∧
 S w' ∧
 CallsS Tryz.prog 25
 #[Value.agg
 #[Value.string x_8, Value.int IntKind.i64 x_9,
 Value.slice p_2 n_3 c_2],
 Value.int IntKind.i64 now]
 w' fun (e : Ending) (w' : World) =>
 ∃ (p_4 : Option Addr),
 ∃ (n_5 : Nat),
 ∃ (c_4 : Nat),
 e = Ending.returned (Value.slice p_4 n_5 c_4) ∧
 KeptL [n_1] W w' ∧
 bsp ((↑n_4 : Int) != (↑n_5 : Int))
 (R (Ending.returned (Value.bool false)) w')
 (∃ (I : List Value → World → Prop),
 ∃ (m : List Value → World → Nat),
 I [Value.int IntKind.i64 0] w' ∧
 ∀ (x_10 : Int) (w' : World),
 I [Value.int IntKind.i64 x_10] w' →
 Loc w.heap.size
 [Blk.mk n_1 62
 [Value.string x_4, Value.int IntKind.i64 x_5,
 Value.slice p n c]
 0]
 w' w' →
 bsp (decide (x_10 < (↑n_4 : Int)))
 (nn true p_3 fun (b o : Nat) =>
 (0 ≤ x_10 ∧ x_10 < (↑n_4 : Int)) ∧
 ∃ (x : Int),
 (∀ (W : World),
 Loc w.heap.size
 [Blk.mk n_1 62
 [Value.string x_4, Value.int IntKind.i64 x_5,
 Value.slice p n c]
 0]
 w' W →
 W.cell? (Addr.mk b (o + x_10.toNat) none) =
 some (Value.int IntKind.i64 x)) ∧
 nn true p_4 fun (b o : Nat) =>
 (0 ≤ x_10 ∧ x_10 < (↑n_5 : Int)) ∧
 ∃ (x_11 : Int),
 (∀ (W : World),
 Loc w.heap.size
 [Blk.mk n_1 62
 [Value.string x_4,
 Value.int IntKind.i64 x_5,
 Value.slice p n c]
 0]
 w' W →
 W.cell? (Addr.mk b (o + x_10.toNat) none) =
 some (Value.int IntKind.i64 x_11)) ∧
 bsp (x != x_11)
 (∀ (W : World),
 Loc w.heap.size
 [Blk.mk n_1 62
 [Value.string x_4,
 Value.int IntKind.i64 x_5,
 Value.slice p n c]
 0]
 w' W →
 R (Ending.returned (Value.bool false)) W)
 (∀ (W : World),
 Loc w.heap.size
 [Blk.mk n_1 62
 [Value.string x_4,
 Value.int IntKind.i64 x_5,
 Value.slice p n c]
 0]
 w' W →
 I
 [Value.int IntKind.i64
 (IntKind.i64.wrap (x_10 + 1))]
 W ∧
 m
 [Value.int IntKind.i64
 (IntKind.i64.wrap (x_10 + 1))]
 W <
 m [Value.int IntKind.i64 x_10] w'))
 (CallsS Tryz.prog 21
 #[Value.pointer x_3, Value.int IntKind.i64 x] w'
 fun (e : Ending) (w'_2 : World) =>
 ∃ (x_11 : ByteArray),
 ∃ (x_12 : ByteArray),
 ∃ (x_13 : ByteArray),
 ∃ (x_14 : ByteArray),
 ∃ (x_15 : Int),
 ∃ (x_16 : Int),
 ∃ (x_17 : ByteArray),
 ∃ (p_5 : Option Addr),
 ∃ (n_6 : Nat),
 ∃ (c_5 : Nat),
 ∃ (x_18 : ByteArray),
 ∃ (x_19 : Int),
 ∃ (x_20 : Bool),
 e =
 Ending.returned
 (Value.tuple
 #[Value.agg
 #[Value.string x_11,
 Value.string x_12,
 Value.string x_13,
 Value.string x_14,
 Value.int IntKind.i64 x_15,
 Value.int IntKind.i64 x_16,
 Value.string x_17,
 Value.slice p_5 n_6 c_5,
 Value.string x_18],
 Value.int IntKind.i64 x_19,
 Value.bool x_20]) ∧
 KeptL [n_1] w' w'_2 ∧
 ∀ (n_7 : Nat) (W : World),
 Loc w.heap.size
 [Blk.mk n_7 26
 [Value.string x_11,
 Value.string x_12,
 Value.string x_13,
 Value.string x_14,
 Value.int IntKind.i64 x_15,
 Value.int IntKind.i64 x_16,
 Value.string x_17,
 Value.slice p_5 n_6 c_5,
 Value.string x_18]
 (wrM 2),
 Blk.mk n_1 62
 [Value.string x_4,
 Value.int IntKind.i64 x_5,
 Value.slice p n c]
 0]
 w'_2 W →
 CallsS Tryz.prog 26
 #[Value.agg
 #[Value.string x_4,
 Value.int IntKind.i64 x_5,
 Value.slice p n c],
 Value.int IntKind.i64 x]
 W fun (e : Ending) (w' : World) =>
 ∃ (x : Int),
 e =
 Ending.returned
 (Value.int IntKind.i64 x) ∧
 KeptL [n_7, n_1] W w' ∧
 bsp (decide (x < 0))
 (bsp (!x_20 && x_19 == 0)
 (CallsS Tryz.prog 16
 #[Value.agg
 #[Value.string x_11,
 Value.string x_12,
 Value.string x_13,
 Value.string x_14,
 Value.int IntKind.i64
 x_15,
 Value.int IntKind.i64
 x_16,
 Value.string x_17,
 Value.slice p_5 n_6 c_5,
 Value.string x_18],
 Value.agg
 #[Value.string
 (ByteArray.mk #[]),
 Value.string
 (ByteArray.mk #[]),
 Value.string
 (ByteArray.mk #[]),
 Value.string
 (ByteArray.mk #[]),
 Value.int IntKind.i64 0,
 Value.int IntKind.i64 0,
 Value.string
 (ByteArray.mk #[]),
 Value.slice none 0 0,
 Value.string
 (ByteArray.mk #[])]]
 w'
 fun (e : Ending)
 (w'_3 : World) =>
 ∃ (x : Bool),
 e =
 Ending.returned
 (Value.bool x) ∧
 KeptL [n_7, n_1] w' w'_3 ∧
 R
 (Ending.returned
 (Value.bool
 (true && x)))
 w'_3)
 (KeptL [n_7, n_1] w' w' ∧
 R
 (Ending.returned
 (Value.bool false))
 w'))
 (∀ (W : World),
 Loc w.heap.size
 [Blk.mk n_7 26
 [Value.string x_11,
 Value.string x_12,
 Value.string x_13,
 Value.string x_14,
 Value.int IntKind.i64
 x_15,
 Value.int IntKind.i64
 x_16,
 Value.string x_17,
 Value.slice p_5 n_6 c_5,
 Value.string x_18]
 0,
 Blk.mk n_1 62
 [Value.string x_4,
 Value.int IntKind.i64
 x_5,
 Value.slice p n c]
 0]
 w' W →
 ∃ (S : World → Prop),
 S W ∧
 ∃ (p : Option Addr),
 ∃ (n : Nat),
 ∃ (c : Nat),
 gimp x_20
 (∀ (w' : World),
 S w' →
 w'.cell?
 (Addr.mk n_1
 (0 + 2) none) =
 some
 (Value.slice p n
 c)) ∧
 nn x_20 p
 fun (b o : Nat) =>
 gimp x_20
 (0 ≤ x ∧
 x < (↑n : Int)) ∧
 ∃ (x_21 : Int),
 gimp x_20
 (∀ (w' : World),
 S w' →
 w'.cell?
 (Addr.mk b
 (o +
 x.toNat *
 12 +
 1)
 none) =
 some
 (Value.int
 IntKind.i64
 x_21)) ∧
 ∃ (x_22 :
 ByteArray),
 ∃ (x_23 :
 ByteArray),
 ∃ (x_24 :
 ByteArray),
 ∃ (x_25 :
 ByteArray),
 ∃ (x_26 : Int),
 ∃ (x_27 :
 Int),
 ∃ (x_28 :
 ByteArray),
 ∃ (p :
 Option
 Addr),
 ∃ (n :
 Nat),
 ∃ (c :
 Nat),
 ∃ (x_29 :
 ByteArray),
 gimp
 (x_20 &&
 x_19 ==
 x_21)
 (∀
 (w' :
 World),
 S
 w' →
 AtL
 w'
 n_7
 0
 [Value.string
 x_22,
 Value.string
 x_23,
 Value.string
 x_24,
 Value.string
 x_25,
 Value.int
 IntKind.i64
 x_26,
 Value.int
 IntKind.i64
 x_27,
 Value.string
 x_28,
 Value.slice
 p
 n
 c,
 Value.string
 x_29]) ∧
 ∃ (p_6
 :
 Option
 Addr),
 ∃ (n_8
 :
 Nat),
 ∃
 (c_6
 :
 Nat),
 gimp
 (x_20 &&
 x_19 ==
 x_21)
 (∀
 (w' :
 World),
 S
 w' →
 w'.cell?
 (Addr.mk
 n_1
 (0 +
 2)
 none) =
 some
 (Value.slice
 p_6
 n_8
 c_6)) ∧
 nn
 (x_20 &&
 x_19 ==
 x_21)
 p_6
 fun
 (b
 o :
 Nat) =>
 gimp
 (x_20 &&
 x_19 ==
 x_21)
 (0 ≤
 x ∧
 x <
 (↑n_8 :
 Int)) ∧
 ∃
 (x_30
 :
 ByteArray),
 ∃
 (x_31
 :
 ByteArray),
 ∃
 (x_32
 :
 ByteArray),
 ∃
 (x_33
 :
 ByteArray),
 ∃
 (x_34
 :
 Int),
 ∃
 (x_35
 :
 Int),
 ∃
 (x_36
 :
 ByteArray),
 ∃
 (p_7
 :
 Option
 Addr),
 ∃
 (n_9
 :
 Nat),
 ∃
 (c_7
 :
 Nat),
 ∃
 (x_37
 :
 ByteArray),
 gimp
 (x_20 &&
 x_19 ==
 x_21)
 (∀
 (w' :
 World),
 S
 w' →
 AtL
 w'
 b
 (o +
 x.toNat *
 12 +
 3)
 [Value.string
 x_30,
 Value.string
 x_31,
 Value.string
 x_32,
 Value.string
 x_33,
 Value.int
 IntKind.i64
 x_34,
 Value.int
 IntKind.i64
 x_35,
 Value.string
 x_36,
 Value.slice
 p_7
 n_9
 c_7,
 Value.string
 x_37]) ∧
 bsp
 (x_20 &&
 x_19 ==
 x_21)
 (CallsS
 Tryz.prog
 11
 #[Value.agg
 #[Value.string
 x_22,
 Value.string
 x_23,
 Value.string
 x_24,
 Value.string
 x_25,
 Value.int
 IntKind.i64
 x_26,
 Value.int
 IntKind.i64
 x_27,
 Value.string
 x_28,
 Value.slice
 p
 n
 c,
 Value.string
 x_29]]
 W
 fun
 (e :
 Ending)
 (w' :
 World) =>
 ∃
 (x
 :
 ByteArray),
 ∃
 (x_38
 :
 ByteArray),
 ∃
 (x_39
 :
 ByteArray),
 ∃
 (x_40
 :
 ByteArray),
 ∃
 (x_41
 :
 Int),
 ∃
 (x_42
 :
 Int),
 ∃
 (x_43
 :
 ByteArray),
 ∃
 (p
 :
 Option
 Addr),
 ∃
 (n
 :
 Nat),
 ∃
 (c
 :
 Nat),
 ∃
 (x_44
 :
 ByteArray),
 e =
 Ending.returned
 (Value.agg
 #[Value.string
 x,
 Value.string
 x_38,
 Value.string
 x_39,
 Value.string
 x_40,
 Value.int
 IntKind.i64
 x_41,
 Value.int
 IntKind.i64
 x_42,
 Value.string
 x_43,
 Value.slice
 p
 n
 c,
 Value.string
 x_44]) ∧
 S
 w' ∧
 CallsS
 Tryz.prog
 10
 #[Value.agg
 #[Value.string
 x,
 Value.string
 x_38,
 Value.string
 x_39,
 Value.string
 x_40,
 Value.int
 IntKind.i64
 x_41,
 Value.int
 IntKind.i64
 x_42,
 Value.string
 x_43,
 Value.slice
 p
 n
 c,
 Value.string
 x_44],
 Value.agg
 #[Value.string
 x_30,
 Value.string
 x_31,
 Value.string
 x_32,
 Value.string
 x_33,
 Value.int
 IntKind.i64
 x_34,
 Value.int
 IntKind.i64
 x_35,
 Value.string
 x_36,
 Value.slice
 p_7
 n_9
 c_7,
 Value.string
 x_37]]
 w'
 fun
 (e :
 Ending)
 (w' :
 World) =>
 ∃
 (x
 :
 Bool),
 e =
 Ending.returned
 (Value.bool
 x) ∧
 KeptL
 [n_7,
 n_1]
 W
 w' ∧
 R
 (Ending.returned
 (Value.bool
 (true &&
 x)))
 w')
 (S
 W ∧
 KeptL
 [n_7,
 n_1]
 W
 W ∧
 R
 (Ending.returned
 (Value.bool
 false))
 W))))))
 (S W ∧ KeptL [n_1] W W ∧ R (Ending.returned (Value.bool false)) W)))
theorem vc_lqueues (s : ByteArray) (p : Option Addr) (k : Nat) (c : Nat) (x : Int) (now : Int) (w : World) (R : Ending → World → Prop) (h : VC_lqueues s p k c x now w R) : Calls Tryz.prog 6 ([Value.string
    s,
  Value.slice p k c, Value.int IntKind.i64 x, Value.int IntKind.i64 now] : List Value).toArray w R := by
  have e : execR2 { P := Tryz.prog, loops := [(14, [(16, Ck.int IntKind.i64)])], pur := purM, tails := [(8, 4), (10, 2), (22, 13)], joins := [], boxes := [] } Tryz.f6.results.toList R (Tryz.f6.body.getD .skip) (initF [Value.string
    s,
  Value.slice p k c, Value.int IntKind.i64 x,
  Value.int IntKind.i64
    now] (Tryz.f6.ntmps - ([Value.string s, Value.slice p k c, Value.int IntKind.i64 x,
  Value.int IntKind.i64 now] : List Value).length)) w = VC_lqueues s p k c x now w R := by kernel_rfl
  have hb : Tryz.f6.body = some (Tryz.f6.body.getD .skip) := by kernel_rfl
  exact calls_of_exec2' (P := Tryz.prog) (fn := Tryz.f6) (c := Tryz.f6.body.getD .skip) (args := [Value.string s,
  Value.slice p k c, Value.int IntKind.i64 x, Value.int IntKind.i64 now]) (w := w) (R := R) purM_ok Tryz.func6 hb e h

end Go.Proofs.YtmlmdljnfokebaaGreatDoor
