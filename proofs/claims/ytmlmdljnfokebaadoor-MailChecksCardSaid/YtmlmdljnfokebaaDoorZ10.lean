/- The formulas of functions by the symbolic evaluator, and that each gives the call's contract. Written by a program (gen.py). No condition. -/
import Derived.Test.YtmlmdljnfokebaaDoorProg
import Derived.Test.YtmlmdljnfokebaaDoorZ02
import Derived.Test.YtmlmdljnfokebaaDoorZ05
import Derived.Test.YtmlmdljnfokebaaDoorZ04
import Derived.KernelRfl
namespace Go.Proofs.YtmlmdljnfokebaaDoor
set_option maxRecDepth 100000
set_option linter.unusedVariables false

def VC_lto (fu : ByteArray) (fs : ByteArray) (tu : ByteArray) (ts : ByteArray) (n : Int) (d : Int) (sj : ByteArray) (hp : Option Addr) (hn : Nat) (hc : Nat) (bd : ByteArray) (w : World) (R : Ending → World → Prop) : Prop :=
 ∀ (n_1 n_2 : Nat) (W : World),
 Loc w.heap.size
 [Blk.mk n_2 29
 [Value.string (ByteArray.mk #[]), Value.string (ByteArray.mk #[]), Value.string (ByteArray.mk #[]),
 Value.string (ByteArray.mk #[]), Value.int IntKind.i64 0, Value.int IntKind.i64 0,
 Value.string (ByteArray.mk #[]), Value.slice none 0 0, Value.string (ByteArray.mk #[])]
 2,
 Blk.mk n_1 26
 [Value.string fu, Value.string fs, Value.string tu, Value.string ts, Value.int IntKind.i64 n,
 Value.int IntKind.i64 d, Value.string sj, Value.slice hp hn hc, Value.string bd]
 2]
 w W →
 ∃ (S : World → Prop),
 S W ∧
 ∃ (x : ByteArray),
 (∀ (w' : World), S w' → w'.cell? (Addr.mk n_1 0 none) = some (Value.string x)) ∧
 ∃ (x_1 : ByteArray),
 (∀ (w' : World), S w' → w'.cell? (Addr.mk n_1 (0 + 1) none) = some (Value.string x_1)) ∧
 ∃ (x_2 : ByteArray),
 (∀ (w' : World), S w' → w'.cell? (Addr.mk n_1 (0 + 2) none) = some (Value.string x_2)) ∧
 ∃ (x_3 : ByteArray),
 (∀ (w' : World), S w' → w'.cell? (Addr.mk n_1 (0 + 3) none) = some (Value.string x_3)) ∧
 ∃ (x_4 : Int),
 (∀ (w' : World), S w' → w'.cell? (Addr.mk n_1 (0 + 4) none) = some (Value.int IntKind.i64 x_4)) ∧
 ∃ (x_5 : Int),
 (∀ (w' : World), S w' → w'.cell? (Addr.mk n_1 (0 + 5) none) = some (Value.int IntKind.i64 x_5)) ∧
 ∃ (x_6 : ByteArray),
 (∀ (w' : World), S w' → w'.cell? (Addr.mk n_1 (0 + 6) none) = some (Value.string x_6)) ∧
 ∃ (x_7 : ByteArray),
 (∀ (w' : World), S w' → w'.cell? (Addr.mk n_1 (0 + 8) none) = some (Value.string x_7)) ∧
 ∃ (x_8 : ByteArray),
 (∀ (w' : World), S w' → w'.cell? (Addr.mk n_1 (0 + 8) none) = some (Value.string x_8)) ∧
 ((0 ≤ if 33000 < (↑x_8.size : Int) then 33000 else (↑x_8.size : Int)) ∧
 (if 33000 < (↑x_8.size : Int) then 33000 else (↑x_8.size : Int)) ≤ (↑x_7.size : Int)) ∧
 ∀ (n_3 : Nat) (w1 : World),
 NewB W
 (Obj.cells
 #[Value.string (ByteArray.mk #[]), Value.string (ByteArray.mk #[]),
 Value.string (ByteArray.mk #[]), Value.string (ByteArray.mk #[]), Value.int IntKind.i64 0,
 Value.int IntKind.i64 0, Value.string (ByteArray.mk #[]), Value.slice none 0 0,
 Value.string (ByteArray.mk #[])]
 29)
 n_3 w1 →
 S w1 ∧
 WrL w1 n_3 0 9 ∧
 ∀ (w1_1 : World),
 PutB w1 n_3 0
 [Value.string x, Value.string x_1, Value.string x_2, Value.string x_3,
 Value.int IntKind.i64 x_4, Value.int IntKind.i64 x_5, Value.string x_6,
 Value.slice none 0 0,
 Value.string
 (x_7.extract 0 (if 33000 < (↑x_8.size : Int) then 33000 else (↑x_8.size : Int)).toNat)]
 w1_1 →
 KeptL [n_2, n_1] W w1_1 ∧
 ∃ (I : List Value → World → Prop),
 ∃ (m : List Value → World → Nat),
 I [Value.int IntKind.i64 0] w1_1 ∧
 ∀ (x : Int) (w' : World),
 I [Value.int IntKind.i64 x] w' →
 Loc w.heap.size
 [Blk.mk n_2 29
 [Value.string (ByteArray.mk #[]), Value.string (ByteArray.mk #[]),
 Value.string (ByteArray.mk #[]), Value.string (ByteArray.mk #[]),
 Value.int IntKind.i64 0, Value.int IntKind.i64 0,
 Value.string (ByteArray.mk #[]), Value.slice none 0 0,
 Value.string (ByteArray.mk #[])]
 0,
 Blk.mk n_1 26
 [Value.string fu, Value.string fs, Value.string tu, Value.string ts,
 Value.int IntKind.i64 n, Value.int IntKind.i64 d, Value.string sj,
 Value.slice hp hn hc, Value.string bd]
 0]
 w' w' →
 bsp (decide (x < (↑hn : Int)) && decide (x < 20))
 (∀ (W : World),
 Loc w.heap.size
 [Blk.mk n_2 29
 [Value.string (ByteArray.mk #[]), Value.string (ByteArray.mk #[]),
 Value.string (ByteArray.mk #[]), Value.string (ByteArray.mk #[]),
 Value.int IntKind.i64 0, Value.int IntKind.i64 0,
 Value.string (ByteArray.mk #[]), Value.slice none 0 0,
 Value.string (ByteArray.mk #[])]
 0,
 Blk.mk n_1 26
 [Value.string fu, Value.string fs, Value.string tu, Value.string ts,
 Value.int IntKind.i64 n, Value.int IntKind.i64 d, Value.string sj,
 Value.slice hp hn hc, Value.string bd]
 0]
 w' W →
 ∃ (S : World → Prop),
 S W ∧
 ∃ (p : Option Addr),
 ∃ (n : Nat),
 ∃ (c : Nat),
 (∀ (w' : World),
 S w' → w'.cell? (Addr.mk n_3 (0 + 7) none) = some (Value.slice p n c)) ∧
 ∃ (p_1 : Option Addr),
 ∃ (n_4 : Nat),
 ∃ (c_1 : Nat),
 (∀ (w' : World),
 S w' →
 w'.cell? (Addr.mk n_1 (0 + 7) none) =
 some (Value.slice p_1 n_4 c_1)) ∧
 nn true p_1 fun (b o : Nat) =>
 (0 ≤ x ∧ x < (↑n_4 : Int)) ∧
 ∃ (x_9 : ByteArray),
 (∀ (w' : World),
 S w' →
 w'.cell? (Addr.mk b (o + x.toNat) none) =
 some (Value.string x_9)) ∧
 ∀ (n_5 : Nat) (w1 : World),
 NewB W (Obj.cells #[Value.string x_9] 9) n_5 w1 →
 S w1 ∧
 ∃ (base : Nat),
 ∃ (xs : List Value),
 ∃ (news : List Value),
 w1.ownsRow base 9 1 (Value.slice p n c) n xs ∧
 news.length = 1 ∧
 SrcP w1 (some (Addr.mk n_5 0 none)) news ∧
 n + 1 ≤ 9223372036854775807 ∧
 (n + 1) * 16 ≤ 140737488355328 ∧
 base ≤ w1.heap.size ∧
 ∀ (p' : Option Addr) (c' : Nat) (w'_1 : World),
 w'_1.ownsRow base 9 1 (Value.slice p' (n + 1) c')
 (n + 1) (xs ++ news) →
 w1.grownBy w'_1 (Value.slice p n c).ownBlock →
 (n + 1 ≤ c → p' = p ∧ c' = c) →
 ((∃ (u : Value),
 w'_1.cell? (Addr.mk n_3 (0 + 7) none) =
 some u) ∧
 w'_1.frozen? (Addr.mk n_3 (0 + 7) none) =
 false) ∧
 ∀ (w1 : World),
 PutB w'_1 n_3 (0 + 7) [Value.slice p' (n + 1) c']
 w1 →
 KeptL [n_2, n_1] W w1 ∧
 I
 [Value.int IntKind.i64
 (IntKind.i64.wrap (x + 1))]
 w1 ∧
 m
 [Value.int IntKind.i64
 (IntKind.i64.wrap (x + 1))]
 w1 <
 m [Value.int IntKind.i64 x] w')
 (∃ (x : ByteArray),
 ∃ (x_9 : ByteArray),
 ∃ (x_10 : ByteArray),
 ∃ (x_11 : ByteArray),
 ∃ (x_12 : Int),
 ∃ (x_13 : Int),
 ∃ (x_14 : ByteArray),
 ∃ (p : Option Addr),
 ∃ (n_4 : Nat),
 ∃ (c : Nat),
 ∃ (x_15 : ByteArray),
 AtL w' n_3 0
 [Value.string x, Value.string x_9, Value.string x_10,
 Value.string x_11, Value.int IntKind.i64 x_12,
 Value.int IntKind.i64 x_13, Value.string x_14, Value.slice p n_4 c,
 Value.string x_15] ∧
 ∀ (W : World),
 Loc w.heap.size
 [Blk.mk n_2 29
 [Value.string x, Value.string x_9, Value.string x_10,
 Value.string x_11, Value.int IntKind.i64 x_12,
 Value.int IntKind.i64 x_13, Value.string x_14,
 Value.slice p n_4 c, Value.string x_15]
 (wrM 0),
 Blk.mk n_1 26
 [Value.string fu, Value.string fs, Value.string tu,
 Value.string ts, Value.int IntKind.i64 n,
 Value.int IntKind.i64 d, Value.string sj, Value.slice hp hn hc,
 Value.string bd]
 0]
 w' W →
 R
 (Ending.returned
 (Value.agg
 #[Value.string x, Value.string x_9, Value.string x_10,
 Value.string x_11, Value.int IntKind.i64 x_12,
 Value.int IntKind.i64 x_13, Value.string x_14,
 Value.slice p n_4 c, Value.string x_15]))
 W)
theorem vc_lto (fu : ByteArray) (fs : ByteArray) (tu : ByteArray) (ts : ByteArray) (n : Int) (d : Int) (sj : ByteArray) (hp : Option Addr) (hn : Nat) (hc : Nat) (bd : ByteArray) (w : World) (R : Ending → World → Prop) (h : VC_lto fu fs tu ts n d sj hp hn hc bd w R) : Calls Tryd.prog 8 ([Value.agg
    #[Value.string fu, Value.string fs, Value.string tu, Value.string ts, Value.int IntKind.i64 n,
      Value.int IntKind.i64 d, Value.string sj, Value.slice hp hn hc, Value.string bd]] : List Value).toArray w R := by
  have e : execR2 { P := Tryd.prog, loops := [(3, [(4, Ck.int IntKind.i64)])], pur := purM, tails := [(1, 28), (5, 7)], joins := [], boxes := [] } Tryd.f8.results.toList R (Tryd.f8.body.getD .skip) (initF [Value.agg
    #[Value.string fu, Value.string fs, Value.string tu, Value.string ts, Value.int IntKind.i64 n,
      Value.int IntKind.i64 d, Value.string sj, Value.slice hp hn hc,
      Value.string
        bd]] (Tryd.f8.ntmps - ([Value.agg
    #[Value.string fu, Value.string fs, Value.string tu, Value.string ts, Value.int IntKind.i64 n,
      Value.int IntKind.i64 d, Value.string sj, Value.slice hp hn hc,
      Value.string bd]] : List Value).length)) w = VC_lto fu fs tu ts n d sj hp hn hc bd w R := by kernel_rfl
  have hb : Tryd.f8.body = some (Tryd.f8.body.getD .skip) := by kernel_rfl
  exact calls_of_exec2' (P := Tryd.prog) (fn := Tryd.f8) (c := Tryd.f8.body.getD .skip) (args := [Value.agg
    #[Value.string fu, Value.string fs, Value.string tu, Value.string ts, Value.int IntKind.i64 n,
      Value.int IntKind.i64 d, Value.string sj, Value.slice hp hn hc,
      Value.string bd]]) (w := w) (R := R) purM_ok Tryd.func8 hb e h

def VC_lof (fu : ByteArray) (fs : ByteArray) (tu : ByteArray) (ts : ByteArray) (n : Int) (d : Int) (sj : ByteArray) (hp : Option Addr) (hn : Nat) (hc : Nat) (bd : ByteArray) (w : World) (R : Ending → World → Prop) : Prop :=
 ∀ (n_1 n_2 n_3 : Nat) (W : World),
 Loc w.heap.size
 [Blk.mk n_3 26
 [Value.string fu, Value.string fs, Value.string tu, Value.string ts, Value.int IntKind.i64 n,
 Value.int IntKind.i64 d, Value.string sj, Value.slice none 0 0, Value.string bd]
 (wrM 2),
 Blk.mk n_2 26
 [Value.string (ByteArray.mk #[]), Value.string (ByteArray.mk #[]), Value.string (ByteArray.mk #[]),
 Value.string (ByteArray.mk #[]), Value.int IntKind.i64 0, Value.int IntKind.i64 0,
 Value.string (ByteArray.mk #[]), Value.slice none 0 0, Value.string (ByteArray.mk #[])]
 2,
 Blk.mk n_1 29
 [Value.string fu, Value.string fs, Value.string tu, Value.string ts, Value.int IntKind.i64 n,
 Value.int IntKind.i64 d, Value.string sj, Value.slice hp hn hc, Value.string bd]
 2]
 w W →
 ∃ (I : List Value → World → Prop),
 ∃ (m : List Value → World → Nat),
 I [Value.int IntKind.i64 0] W ∧
 ∀ (x : Int) (w' : World),
 I [Value.int IntKind.i64 x] w' →
 Loc w.heap.size
 [Blk.mk n_2 26
 [Value.string (ByteArray.mk #[]), Value.string (ByteArray.mk #[]), Value.string (ByteArray.mk #[]),
 Value.string (ByteArray.mk #[]), Value.int IntKind.i64 0, Value.int IntKind.i64 0,
 Value.string (ByteArray.mk #[]), Value.slice none 0 0, Value.string (ByteArray.mk #[])]
 0,
 Blk.mk n_1 29
 [Value.string fu, Value.string fs, Value.string tu, Value.string ts, Value.int IntKind.i64 n,
 Value.int IntKind.i64 d, Value.string sj, Value.slice hp hn hc, Value.string bd]
 0]
 w' w' →
 bsp (decide (x < (↑hn : Int)))
 (∀ (W : World),
 Loc w.heap.size
 [Blk.mk n_2 26
 [Value.string (ByteArray.mk #[]), Value.string (ByteArray.mk #[]), Value.string (ByteArray.mk #[]),
 Value.string (ByteArray.mk #[]), Value.int IntKind.i64 0, Value.int IntKind.i64 0,
 Value.string (ByteArray.mk #[]), Value.slice none 0 0, Value.string (ByteArray.mk #[])]
 0,
 Blk.mk n_1 29
 [Value.string fu, Value.string fs, Value.string tu, Value.string ts, Value.int IntKind.i64 n,
 Value.int IntKind.i64 d, Value.string sj, Value.slice hp hn hc, Value.string bd]
 0]
 w' W →
 ∃ (S : World → Prop),
 S W ∧
 ∃ (p : Option Addr),
 ∃ (n : Nat),
 ∃ (c : Nat),
 (∀ (w' : World), S w' → w'.cell? (Addr.mk n_3 (0 + 7) none) = some (Value.slice p n c)) ∧
 ∃ (p_1 : Option Addr),
 ∃ (n_4 : Nat),
 ∃ (c_1 : Nat),
 (∀ (w' : World), S w' → w'.cell? (Addr.mk n_1 (0 + 7) none) = some (Value.slice p_1 n_4 c_1)) ∧
 nn true p_1 fun (b o : Nat) =>
 (0 ≤ x ∧ x < (↑n_4 : Int)) ∧
 ∃ (x_1 : ByteArray),
 (∀ (w' : World), S w' → w'.cell? (Addr.mk b (o + x.toNat) none) = some (Value.string x_1)) ∧
 ∀ (n_5 : Nat) (w1 : World),
 NewB W (Obj.cells #[Value.string x_1] 9) n_5 w1 →
 S w1 ∧
 ∃ (base : Nat),
 ∃ (xs : List Value),
 ∃ (news : List Value),
 w1.ownsRow base 9 1 (Value.slice p n c) n xs ∧
 news.length = 1 ∧
 SrcP w1 (some (Addr.mk n_5 0 none)) news ∧
 n + 1 ≤ 9223372036854775807 ∧
 (n + 1) * 16 ≤ 140737488355328 ∧
 base ≤ w1.heap.size ∧
 ∀ (p' : Option Addr) (c' : Nat) (w'_1 : World),
 w'_1.ownsRow base 9 1 (Value.slice p' (n + 1) c') (n + 1) (xs ++ news) →
 w1.grownBy w'_1 (Value.slice p n c).ownBlock →
 (n + 1 ≤ c → p' = p ∧ c' = c) →
 ((∃ (u : Value), w'_1.cell? (Addr.mk n_3 (0 + 7) none) = some u) ∧
 w'_1.frozen? (Addr.mk n_3 (0 + 7) none) = false) ∧
 ∀ (w1 : World),
 PutB w'_1 n_3 (0 + 7) [Value.slice p' (n + 1) c'] w1 →
 KeptL [n_2, n_1] W w1 ∧
 I [Value.int IntKind.i64 (IntKind.i64.wrap (x + 1))] w1 ∧
 m [Value.int IntKind.i64 (IntKind.i64.wrap (x + 1))] w1 <
 m [Value.int IntKind.i64 x] w')
 (∃ (x : ByteArray),
 ∃ (x_1 : ByteArray),
 ∃ (x_2 : ByteArray),
 ∃ (x_3 : ByteArray),
 ∃ (x_4 : Int),
 ∃ (x_5 : Int),
 ∃ (x_6 : ByteArray),
 ∃ (p : Option Addr),
 ∃ (n_4 : Nat),
 ∃ (c : Nat),
 ∃ (x_7 : ByteArray),
 AtL w' n_3 0
 [Value.string x, Value.string x_1, Value.string x_2, Value.string x_3, Value.int IntKind.i64 x_4,
 Value.int IntKind.i64 x_5, Value.string x_6, Value.slice p n_4 c, Value.string x_7] ∧
 ∀ (W : World),
 Loc w.heap.size
 [Blk.mk n_2 26
 [Value.string x, Value.string x_1, Value.string x_2, Value.string x_3,
 Value.int IntKind.i64 x_4, Value.int IntKind.i64 x_5, Value.string x_6, Value.slice p n_4 c,
 Value.string x_7]
 (wrM 0),
 Blk.mk n_1 29
 [Value.string fu, Value.string fs, Value.string tu, Value.string ts, Value.int IntKind.i64 n,
 Value.int IntKind.i64 d, Value.string sj, Value.slice hp hn hc, Value.string bd]
 0]
 w' W →
 R
 (Ending.returned
 (Value.agg
 #[Value.string x, Value.string x_1, Value.string x_2, Value.string x_3,
 Value.int IntKind.i64 x_4, Value.int IntKind.i64 x_5, Value.string x_6, Value.slice p n_4 c,
 Value.string x_7]))
 W)
theorem vc_lof (fu : ByteArray) (fs : ByteArray) (tu : ByteArray) (ts : ByteArray) (n : Int) (d : Int) (sj : ByteArray) (hp : Option Addr) (hn : Nat) (hc : Nat) (bd : ByteArray) (w : World) (R : Ending → World → Prop) (h : VC_lof fu fs tu ts n d sj hp hn hc bd w R) : Calls Tryd.prog 11 ([Value.agg
    #[Value.string fu, Value.string fs, Value.string tu, Value.string ts, Value.int IntKind.i64 n,
      Value.int IntKind.i64 d, Value.string sj, Value.slice hp hn hc, Value.string bd]] : List Value).toArray w R := by
  have e : execR2 { P := Tryd.prog, loops := [(3, [(4, Ck.int IntKind.i64)])], pur := purM, tails := [(5, 7)], joins := [], boxes := [] } Tryd.f11.results.toList R (Tryd.f11.body.getD .skip) (initF [Value.agg
    #[Value.string fu, Value.string fs, Value.string tu, Value.string ts, Value.int IntKind.i64 n,
      Value.int IntKind.i64 d, Value.string sj, Value.slice hp hn hc,
      Value.string
        bd]] (Tryd.f11.ntmps - ([Value.agg
    #[Value.string fu, Value.string fs, Value.string tu, Value.string ts, Value.int IntKind.i64 n,
      Value.int IntKind.i64 d, Value.string sj, Value.slice hp hn hc,
      Value.string bd]] : List Value).length)) w = VC_lof fu fs tu ts n d sj hp hn hc bd w R := by kernel_rfl
  have hb : Tryd.f11.body = some (Tryd.f11.body.getD .skip) := by kernel_rfl
  exact calls_of_exec2' (P := Tryd.prog) (fn := Tryd.f11) (c := Tryd.f11.body.getD .skip) (args := [Value.agg
    #[Value.string fu, Value.string fs, Value.string tu, Value.string ts, Value.int IntKind.i64 n,
      Value.int IntKind.i64 d, Value.string sj, Value.slice hp hn hc,
      Value.string bd]]) (w := w) (R := R) purM_ok Tryd.func11 hb e h

def VC_laddr (s : ByteArray) (w : World) (R : Ending → World → Prop) : Prop :=
 ((0 ≤ if 120 < (↑s.size : Int) then 120 else (↑s.size : Int)) ∧
 (if 120 < (↑s.size : Int) then 120 else (↑s.size : Int)) ≤ (↑s.size : Int)) ∧
 CallsS Tryd.prog 19 #[Value.string (s.extract 0 (if 120 < (↑s.size : Int) then 120 else (↑s.size : Int)).toNat)] w
 fun (e : Ending) (w' : World) =>
 ∃ (x : ByteArray),
 ∃ (x_1 : ByteArray),
 ∃ (x_2 : Int),
 e = Ending.returned (Value.tuple #[Value.agg #[Value.string x, Value.string x_1], Value.int IntKind.i64 x_2]) ∧
 KeptL [] w w' ∧
 ∀ (n : Nat) (W : World),
 Loc w.heap.size [Blk.mk n 27 [Value.string x, Value.string x_1] (wrM 2)] w' W →
 CallsS Tryd.prog 20
 #[Value.string (s.extract 0 (if 120 < (↑s.size : Int) then 120 else (↑s.size : Int)).toNat)] W
 fun (e : Ending) (w' : World) =>
 ∃ (x_3 : ByteArray),
 ∃ (x_4 : ByteArray),
 ∃ (x_5 : Int),
 e =
 Ending.returned
 (Value.tuple #[Value.agg #[Value.string x_3, Value.string x_4], Value.int IntKind.i64 x_5]) ∧
 KeptL [n] W w' ∧
 ∀ (n_1 : Nat) (W : World),
 Loc w.heap.size
 [Blk.mk n_1 23 [Value.string x_3, Value.string x_4] (wrM 2),
 Blk.mk n 27 [Value.string x, Value.string x_1] 0]
 w' W →
 CallsS Tryd.prog 13 #[] W fun (e : Ending) (w' : World) =>
 ∃ (x_6 : Bool),
 e = Ending.returned (Value.bool x_6) ∧
 KeptL [n_1, n] W w' ∧
 ∃ (x_7 : ByteArray),
 gimp (x_6 && x_2 == x_5) (w'.cell? (Addr.mk n 0 none) = some (Value.string x_7)) ∧
 ∃ (x_8 : ByteArray),
 gimp (x_6 && x_2 == x_5) (w'.cell? (Addr.mk n_1 0 none) = some (Value.string x_8)) ∧
 ∃ (x_9 : ByteArray),
 gimp (x_6 && x_2 == x_5 && x_7.toList == x_8.toList)
 (w'.cell? (Addr.mk n (0 + 1) none) = some (Value.string x_9)) ∧
 ∃ (x_10 : ByteArray),
 gimp (x_6 && x_2 == x_5 && x_7.toList == x_8.toList)
 (w'.cell? (Addr.mk n_1 (0 + 1) none) = some (Value.string x_10)) ∧
 bsp (x_6 && x_2 == x_5 && x_7.toList == x_8.toList && x_9.toList == x_10.toList)
 (bsp (!x_2 != 0)
 (CallsS Tryd.prog 21 #[Value.agg #[Value.string x, Value.string x_1]] w'
 fun (e : Ending) (w'_1 : World) =>
 ∃ (x : ByteArray),
 e = Ending.returned (Value.string x) ∧
 KeptL [n_1, n] w' w'_1 ∧
 R
 (Ending.returned
 (Value.bool
 (true &&
 (false ||
 x.toList ==
 (s.extract 0
 (if 120 < (↑s.size : Int) then 120 else (↑s.size : Int)).toNat).toList))))
 w'_1)
 (KeptL [n_1, n] w' w' ∧ R (Ending.returned (Value.bool (true && true))) w'))
 (KeptL [n_1, n] w' w' ∧ R (Ending.returned (Value.bool false)) w')
theorem vc_laddr (s : ByteArray) (w : World) (R : Ending → World → Prop) (h : VC_laddr s w R) : Calls Tryd.prog 7 ([Value.string
    s] : List Value).toArray w R := by
  have e : execR2 { P := Tryd.prog, loops := [], pur := purM, tails := [], joins := [], boxes := [] } Tryd.f7.results.toList R (Tryd.f7.body.getD .skip) (initF [Value.string
    s] (Tryd.f7.ntmps - ([Value.string s] : List Value).length)) w = VC_laddr s w R := by kernel_rfl
  have hb : Tryd.f7.body = some (Tryd.f7.body.getD .skip) := by kernel_rfl
  exact calls_of_exec2' (P := Tryd.prog) (fn := Tryd.f7) (c := Tryd.f7.body.getD .skip) (args := [Value.string
    s]) (w := w) (R := R) purM_ok Tryd.func7 hb e h

def VC_lchecks (fu : ByteArray) (fs : ByteArray) (tu : ByteArray) (ts : ByteArray) (n : Int) (d : Int) (sj : ByteArray) (hp : Option Addr) (hn : Nat) (hc : Nat) (bd : ByteArray) (fuy : ByteArray) (fsy : ByteArray) (tuy : ByteArray) (tsy : ByteArray) (ny : Int) (dy : Int) (sjy : ByteArray) (hpy : Option Addr) (hny : Nat) (hcy : Nat) (bdy : ByteArray) (w : World) (R : Ending → World → Prop) : Prop :=
 ∀ (n_1 n_2 : Nat) (W : World),
 Loc w.heap.size
 [Blk.mk n_2 26
 [Value.string fuy, Value.string fsy, Value.string tuy, Value.string tsy, Value.int IntKind.i64 ny,
 Value.int IntKind.i64 dy, Value.string sjy, Value.slice hpy hny hcy, Value.string bdy]
 2,
 Blk.mk n_1 26
 [Value.string fu, Value.string fs, Value.string tu, Value.string ts, Value.int IntKind.i64 n,
 Value.int IntKind.i64 d, Value.string sj, Value.slice hp hn hc, Value.string bd]
 2]
 w W →
 ∃ (S : World → Prop),
 S W ∧
 ∃ (x : ByteArray),
 ∃ (x_1 : ByteArray),
 ∃ (x_2 : ByteArray),
 ∃ (x_3 : ByteArray),
 ∃ (x_4 : Int),
 ∃ (x_5 : Int),
 ∃ (x_6 : ByteArray),
 ∃ (p : Option Addr),
 ∃ (n_3 : Nat),
 ∃ (c : Nat),
 ∃ (x_7 : ByteArray),
 (∀ (w' : World),
 S w' →
 AtL w' n_1 0
 [Value.string x, Value.string x_1, Value.string x_2, Value.string x_3, Value.int IntKind.i64 x_4,
 Value.int IntKind.i64 x_5, Value.string x_6, Value.slice p n_3 c, Value.string x_7]) ∧
 ∃ (x_8 : ByteArray),
 ∃ (x_9 : ByteArray),
 ∃ (x_10 : ByteArray),
 ∃ (x_11 : ByteArray),
 ∃ (x_12 : Int),
 ∃ (x_13 : Int),
 ∃ (x_14 : ByteArray),
 ∃ (p_1 : Option Addr),
 ∃ (n_4 : Nat),
 ∃ (c_1 : Nat),
 ∃ (x_15 : ByteArray),
 (∀ (w' : World),
 S w' →
 AtL w' n_2 0
 [Value.string x_8, Value.string x_9, Value.string x_10, Value.string x_11,
 Value.int IntKind.i64 x_12, Value.int IntKind.i64 x_13, Value.string x_14,
 Value.slice p_1 n_4 c_1, Value.string x_15]) ∧
 (CallsS Tryd.prog 8
 #[Value.agg
 #[Value.string x, Value.string x_1, Value.string x_2, Value.string x_3,
 Value.int IntKind.i64 x_4, Value.int IntKind.i64 x_5, Value.string x_6,
 Value.slice p n_3 c, Value.string x_7]]
 W fun (e : Ending) (w' : World) =>
 ∃ (x : ByteArray),
 ∃ (x_16 : ByteArray),
 ∃ (x_17 : ByteArray),
 ∃ (x_18 : ByteArray),
 ∃ (x_19 : Int),
 ∃ (x_20 : Int),
 ∃ (x_21 : ByteArray),
 ∃ (p : Option Addr),
 ∃ (n_5 : Nat),
 ∃ (c : Nat),
 ∃ (x_22 : ByteArray),
 e =
 Ending.returned
 (Value.agg
 #[Value.string x, Value.string x_16, Value.string x_17, Value.string x_18,
 Value.int IntKind.i64 x_19, Value.int IntKind.i64 x_20, Value.string x_21,
 Value.slice p n_5 c, Value.string x_22]) ∧
 S w' ∧
 (CallsS Tryd.prog 8
 #[Value.agg
 #[Value.string x_8, Value.string x_9, Value.string x_10,
 Value.string x_11, Value.int IntKind.i64 x_12,
 Value.int IntKind.i64 x_13, Value.string x_14, Value.slice p_1 n_4 c_1,
 Value.string x_15]]
 w' fun (e : Ending) (w' : World) =>
 ∃ (x_23 : ByteArray),
 ∃ (x_24 : ByteArray),
 ∃ (x_25 : ByteArray),
 ∃ (x_26 : ByteArray),
 ∃ (x_27 : Int),
 ∃ (x_28 : Int),
 ∃ (x_29 : ByteArray),
 ∃ (p_2 : Option Addr),
 ∃ (n_6 : Nat),
 ∃ (c_2 : Nat),
 ∃ (x_30 : ByteArray),
 e =
 Ending.returned
 (Value.agg
 #[Value.string x_23, Value.string x_24, Value.string x_25,
 Value.string x_26, Value.int IntKind.i64 x_27,
 Value.int IntKind.i64 x_28, Value.string x_29,
 Value.slice p_2 n_6 c_2, Value.string x_30]) ∧
 (∀ (n_7 : Nat) (w1 : World),
 NewB w'
 (Obj.cells
 #[Value.string (ByteArray.mk #[]),
 Value.string (ByteArray.mk #[]),
 Value.string (ByteArray.mk #[]),
 Value.string (ByteArray.mk #[]), Value.int IntKind.i64 0,
 Value.int IntKind.i64 0, Value.string (ByteArray.mk #[]),
 Value.slice none 0 0, Value.string (ByteArray.mk #[])]
 29)
 n_7 w1 →
 S w1 ∧
 ∀ (n_8 : Nat) (w1_1 : World),
 NewB w1
 (Obj.cells
 #[Value.string (ByteArray.mk #[]),
 Value.string (ByteArray.mk #[]),
 Value.string (ByteArray.mk #[]),
 Value.string (ByteArray.mk #[]),
 Value.int IntKind.i64 0, Value.int IntKind.i64 0,
 Value.string (ByteArray.mk #[]), Value.slice none 0 0,
 Value.string (ByteArray.mk #[])]
 29)
 n_8 w1_1 →
 S w1_1 ∧
 WrL w1_1 n_7 0 9 ∧
 ∀ (w1 : World),
 PutB w1_1 n_7 0
 [Value.string x, Value.string x_16,
 Value.string x_17, Value.string x_18,
 Value.int IntKind.i64 x_19,
 Value.int IntKind.i64 x_20, Value.string x_21,
 Value.slice p n_5 c, Value.string x_22]
 w1 →
 WrL w1 n_8 0 9 ∧
 ∀ (w1_2 : World),
 PutB w1 n_8 0
 [Value.string x_23, Value.string x_24,
 Value.string x_25, Value.string x_26,
 Value.int IntKind.i64 x_27,
 Value.int IntKind.i64 x_28, Value.string x_29,
 Value.slice p_2 n_6 c_2, Value.string x_30]
 w1_2 →
 KeptL [n_2, n_1] W w1_2 ∧
 ∀ (W : World),
 Loc w.heap.size
 [Blk.mk n_2 26
 [Value.string fuy, Value.string fsy,
 Value.string tuy, Value.string tsy,
 Value.int IntKind.i64 ny,
 Value.int IntKind.i64 dy, Value.string sjy,
 Value.slice hpy hny hcy, Value.string bdy]
 0,
 Blk.mk n_1 26
 [Value.string fu, Value.string fs,
 Value.string tu, Value.string ts,
 Value.int IntKind.i64 n,
 Value.int IntKind.i64 d, Value.string sj,
 Value.slice hp hn hc, Value.string bd]
 0]
 w1_2 W →
 ∃ (S : World → Prop),
 S W ∧
 CallsS Tryd.prog 13 #[] W
 fun (e : Ending) (w' : World) =>
 ∃ (x : Bool),
 e = Ending.returned (Value.bool x) ∧
 S w' ∧
 ∃ (x_31 : ByteArray),
 ∃ (x_32 : ByteArray),
 ∃ (x_33 : ByteArray),
 ∃ (x_34 : ByteArray),
 ∃ (x_35 : Int),
 ∃ (x_36 : Int),
 ∃ (x_37 : ByteArray),
 ∃ (p : Option Addr),
 ∃ (n : Nat),
 ∃ (c : Nat),
 ∃ (x_38 : ByteArray),
 gimp x
 (∀ (w' : World),
 S w' →
 AtL w' n_7 0
 [Value.string x_31,
 Value.string x_32,
 Value.string x_33,
 Value.string x_34,
 Value.int IntKind.i64
 x_35,
 Value.int IntKind.i64
 x_36,
 Value.string x_37,
 Value.slice p n c,
 Value.string x_38]) ∧
 ∃ (x_39 : ByteArray),
 ∃ (x_40 : ByteArray),
 ∃ (x_41 : ByteArray),
 ∃ (x_42 : ByteArray),
 ∃ (x_43 : Int),
 ∃ (x_44 : Int),
 ∃ (x_45 : ByteArray),
 ∃ (p_3 : Option Addr),
 ∃ (n_9 : Nat),
 ∃ (c_3 : Nat),
 ∃ (x_46 :
 ByteArray),
 gimp x
 (∀ (w' : World),
 S w' →
 AtL w' n_7 0
 [Value.string
 x_39,
 Value.string
 x_40,
 Value.string
 x_41,
 Value.string
 x_42,
 Value.int
 IntKind.i64
 x_43,
 Value.int
 IntKind.i64
 x_44,
 Value.string
 x_45,
 Value.slice
 p_3 n_9
 c_3,
 Value.string
 x_46]) ∧
 bsp x
 (CallsS
 Tryd.prog 14
 #[Value.agg
 #[Value.string
 x_31,
 Value.string
 x_32,
 Value.string
 x_33,
 Value.string
 x_34,
 Value.int
 IntKind.i64
 x_35,
 Value.int
 IntKind.i64
 x_36,
 Value.string
 x_37,
 Value.slice
 p n c,
 Value.string
 x_38]]
 w'
 fun
 (e : Ending)
 (w' :
 World) =>
 ∃ (x : Int),
 e =
 Ending.returned
 (Value.int
 IntKind.i64
 x) ∧
 S w' ∧
 CallsS
 Tryd.prog
 11
 #[Value.agg
 #[Value.string
 x_39,
 Value.string
 x_40,
 Value.string
 x_41,
 Value.string
 x_42,
 Value.int
 IntKind.i64
 x_43,
 Value.int
 IntKind.i64
 x_44,
 Value.string
 x_45,
 Value.slice
 p_3 n_9
 c_3,
 Value.string
 x_46]]
 w'
 fun
 (e :
 Ending)
 (w' :
 World) =>
 ∃ (x_47 :
 ByteArray),
 ∃ (x_48 :
 ByteArray),
 ∃ (x_49 :
 ByteArray),
 ∃ (x_50
 :
 ByteArray),
 ∃ (x_51
 :
 Int),
 ∃
 (x_52
 :
 Int),
 ∃
 (x_53
 :
 ByteArray),
 ∃ (p
 :
 Option
 Addr),
 ∃
 (n
 :
 Nat),
 ∃
 (c
 :
 Nat),
 ∃
 (x_54
 :
 ByteArray),
 e =
 Ending.returned
 (Value.agg
 #[Value.string
 x_47,
 Value.string
 x_48,
 Value.string
 x_49,
 Value.string
 x_50,
 Value.int
 IntKind.i64
 x_51,
 Value.int
 IntKind.i64
 x_52,
 Value.string
 x_53,
 Value.slice
 p
 n
 c,
 Value.string
 x_54]) ∧
 S
 w' ∧
 CallsS
 Tryd.prog
 15
 #[Value.agg
 #[Value.string
 x_47,
 Value.string
 x_48,
 Value.string
 x_49,
 Value.string
 x_50,
 Value.int
 IntKind.i64
 x_51,
 Value.int
 IntKind.i64
 x_52,
 Value.string
 x_53,
 Value.slice
 p
 n
 c,
 Value.string
 x_54]]
 w'
 fun
 (e :
 Ending)
 (w' :
 World) =>
 ∃
 (x_55
 :
 Int),
 e =
 Ending.returned
 (Value.int
 IntKind.i64
 x_55) ∧
 S
 w' ∧
 ∃
 (x_56
 :
 ByteArray),
 ∃
 (x_57
 :
 ByteArray),
 ∃
 (x_58
 :
 ByteArray),
 ∃
 (x_59
 :
 ByteArray),
 ∃
 (x_60
 :
 Int),
 ∃
 (x_61
 :
 Int),
 ∃
 (x_62
 :
 ByteArray),
 ∃
 (p
 :
 Option
 Addr),
 ∃
 (n
 :
 Nat),
 ∃
 (c
 :
 Nat),
 ∃
 (x_63
 :
 ByteArray),
 gimp
 (true &&
 x ==
 x_55)
 (∀
 (w' :
 World),
 S
 w' →
 AtL
 w'
 n_7
 0
 [Value.string
 x_56,
 Value.string
 x_57,
 Value.string
 x_58,
 Value.string
 x_59,
 Value.int
 IntKind.i64
 x_60,
 Value.int
 IntKind.i64
 x_61,
 Value.string
 x_62,
 Value.slice
 p
 n
 c,
 Value.string
 x_63]) ∧
 ∃
 (x_64
 :
 ByteArray),
 ∃
 (x_65
 :
 ByteArray),
 ∃
 (x_66
 :
 ByteArray),
 ∃
 (x_67
 :
 ByteArray),
 ∃
 (x_68
 :
 Int),
 ∃
 (x_69
 :
 Int),
 ∃
 (x_70
 :
 ByteArray),
 ∃
 (p_4
 :
 Option
 Addr),
 ∃
 (n_10
 :
 Nat),
 ∃
 (c_4
 :
 Nat),
 ∃
 (x_71
 :
 ByteArray),
 gimp
 (true &&
 x ==
 x_55)
 (∀
 (w' :
 World),
 S
 w' →
 AtL
 w'
 n_8
 0
 [Value.string
 x_64,
 Value.string
 x_65,
 Value.string
 x_66,
 Value.string
 x_67,
 Value.int
 IntKind.i64
 x_68,
 Value.int
 IntKind.i64
 x_69,
 Value.string
 x_70,
 Value.slice
 p_4
 n_10
 c_4,
 Value.string
 x_71]) ∧
 ∃
 (x_72
 :
 ByteArray),
 ∃
 (x_73
 :
 ByteArray),
 ∃
 (x_74
 :
 ByteArray),
 ∃
 (x_75
 :
 ByteArray),
 ∃
 (x_76
 :
 Int),
 ∃
 (x_77
 :
 Int),
 ∃
 (x_78
 :
 ByteArray),
 ∃
 (p_5
 :
 Option
 Addr),
 ∃
 (n_11
 :
 Nat),
 ∃
 (c_5
 :
 Nat),
 ∃
 (x_79
 :
 ByteArray),
 gimp
 (true &&
 x ==
 x_55)
 (∀
 (w' :
 World),
 S
 w' →
 AtL
 w'
 n_7
 0
 [Value.string
 x_72,
 Value.string
 x_73,
 Value.string
 x_74,
 Value.string
 x_75,
 Value.int
 IntKind.i64
 x_76,
 Value.int
 IntKind.i64
 x_77,
 Value.string
 x_78,
 Value.slice
 p_5
 n_11
 c_5,
 Value.string
 x_79]) ∧
 ∃
 (x_80
 :
 ByteArray),
 ∃
 (x_81
 :
 ByteArray),
 ∃
 (x_82
 :
 ByteArray),
 ∃
 (x_83
 :
 ByteArray),
 ∃
 (x_84
 :
 Int),
 ∃
 (x_85
 :
 Int),
 ∃
 (x_86
 :
 ByteArray),
 ∃
 (p_6
 :
 Option
 Addr),
 ∃
 (n_12
 :
 Nat),
 ∃
 (c_6
 :
 Nat),
 ∃
 (x_87
 :
 ByteArray),
 gimp
 (true &&
 x ==
 x_55)
 (∀
 (w' :
 World),
 S
 w' →
 AtL
 w'
 n_8
 0
 [Value.string
 x_80,
 Value.string
 x_81,
 Value.string
 x_82,
 Value.string
 x_83,
 Value.int
 IntKind.i64
 x_84,
 Value.int
 IntKind.i64
 x_85,
 Value.string
 x_86,
 Value.slice
 p_6
 n_12
 c_6,
 Value.string
 x_87]) ∧
 bsp
 (true &&
 x ==
 x_55)
 (CallsS
 Tryd.prog
 16
 #[Value.agg
 #[Value.string
 x_56,
 Value.string
 x_57,
 Value.string
 x_58,
 Value.string
 x_59,
 Value.int
 IntKind.i64
 x_60,
 Value.int
 IntKind.i64
 x_61,
 Value.string
 x_62,
 Value.slice
 p
 n
 c,
 Value.string
 x_63],
 Value.agg
 #[Value.string
 x_64,
 Value.string
 x_65,
 Value.string
 x_66,
 Value.string
 x_67,
 Value.int
 IntKind.i64
 x_68,
 Value.int
 IntKind.i64
 x_69,
 Value.string
 x_70,
 Value.slice
 p_4
 n_10
 c_4,
 Value.string
 x_71]]
 w'
 fun
 (e :
 Ending)
 (w' :
 World) =>
 ∃
 (x
 :
 Bool),
 e =
 Ending.returned
 (Value.bool
 x) ∧
 S
 w' ∧
 CallsS
 Tryd.prog
 11
 #[Value.agg
 #[Value.string
 x_72,
 Value.string
 x_73,
 Value.string
 x_74,
 Value.string
 x_75,
 Value.int
 IntKind.i64
 x_76,
 Value.int
 IntKind.i64
 x_77,
 Value.string
 x_78,
 Value.slice
 p_5
 n_11
 c_5,
 Value.string
 x_79]]
 w'
 fun
 (e :
 Ending)
 (w' :
 World) =>
 ∃
 (x_88
 :
 ByteArray),
 ∃
 (x_89
 :
 ByteArray),
 ∃
 (x_90
 :
 ByteArray),
 ∃
 (x_91
 :
 ByteArray),
 ∃
 (x_92
 :
 Int),
 ∃
 (x_93
 :
 Int),
 ∃
 (x_94
 :
 ByteArray),
 ∃
 (p
 :
 Option
 Addr),
 ∃
 (n
 :
 Nat),
 ∃
 (c
 :
 Nat),
 ∃
 (x_95
 :
 ByteArray),
 e =
 Ending.returned
 (Value.agg
 #[Value.string
 x_88,
 Value.string
 x_89,
 Value.string
 x_90,
 Value.string
 x_91,
 Value.int
 IntKind.i64
 x_92,
 Value.int
 IntKind.i64
 x_93,
 Value.string
 x_94,
 Value.slice
 p
 n
 c,
 Value.string
 x_95]) ∧
 S
 w' ∧
 CallsS
 Tryd.prog
 11
 #[Value.agg
 #[Value.string
 x_80,
 Value.string
 x_81,
 Value.string
 x_82,
 Value.string
 x_83,
 Value.int
 IntKind.i64
 x_84,
 Value.int
 IntKind.i64
 x_85,
 Value.string
 x_86,
 Value.slice
 p_6
 n_12
 c_6,
 Value.string
 x_87]]
 w'
 fun
 (e :
 Ending)
 (w' :
 World) =>
 ∃
 (x_96
 :
 ByteArray),
 ∃
 (x_97
 :
 ByteArray),
 ∃
 (x_98
 :
 ByteArray),
 ∃
 (x_99
 :
 ByteArray),
 ∃
 (x_100
 :
 Int),
 ∃
 (x_101
 :
 Int),
 ∃
 (x_102
 :
 ByteArray),
 ∃
 (p_7
 :
 Option
 Addr),
 ∃
 (n_13
 :
 Nat),
 ∃
 (c_7
 :
 Nat),
 ∃
 (x_103
 :
 ByteArray),
 e =
 Ending.returned
 (Value.agg
 #[Value.string
 x_96,
 Value.string
 x_97,
 Value.string
 x_98,
 Value.string
 x_99,
 Value.int
 IntKind.i64
 x_100,
 Value.int
 IntKind.i64
 x_101,
 Value.string
 x_102,
 Value.slice
 p_7
 n_13
 c_7,
 Value.string
 x_103]) ∧
 S
 w' ∧
 CallsS
 Tryd.prog
 12
 #[Value.agg
 #[Value.string
 x_88,
 Value.string
 x_89,
 Value.string
 x_90,
 Value.string
 x_91,
 Value.int
 IntKind.i64
 x_92,
 Value.int
 IntKind.i64
 x_93,
 Value.string
 x_94,
 Value.slice
 p
 n
 c,
 Value.string
 x_95],
 Value.agg
 #[Value.string
 x_96,
 Value.string
 x_97,
 Value.string
 x_98,
 Value.string
 x_99,
 Value.int
 IntKind.i64
 x_100,
 Value.int
 IntKind.i64
 x_101,
 Value.string
 x_102,
 Value.slice
 p_7
 n_13
 c_7,
 Value.string
 x_103]]
 w'
 fun
 (e :
 Ending)
 (w' :
 World) =>
 ∃
 (x_104
 :
 Bool),
 e =
 Ending.returned
 (Value.bool
 x_104) ∧
 S
 w' ∧
 ∃
 (x_105
 :
 ByteArray),
 ∃
 (x_106
 :
 ByteArray),
 ∃
 (x_107
 :
 ByteArray),
 ∃
 (x_108
 :
 ByteArray),
 ∃
 (x_109
 :
 Int),
 ∃
 (x_110
 :
 Int),
 ∃
 (x_111
 :
 ByteArray),
 ∃
 (p
 :
 Option
 Addr),
 ∃
 (n
 :
 Nat),
 ∃
 (c
 :
 Nat),
 ∃
 (x_112
 :
 ByteArray),
 gimp
 (true &&
 x ==
 x_104)
 (∀
 (w' :
 World),
 S
 w' →
 AtL
 w'
 n_7
 0
 [Value.string
 x_105,
 Value.string
 x_106,
 Value.string
 x_107,
 Value.string
 x_108,
 Value.int
 IntKind.i64
 x_109,
 Value.int
 IntKind.i64
 x_110,
 Value.string
 x_111,
 Value.slice
 p
 n
 c,
 Value.string
 x_112]) ∧
 ∃
 (x_113
 :
 ByteArray),
 ∃
 (x_114
 :
 ByteArray),
 ∃
 (x_115
 :
 ByteArray),
 ∃
 (x_116
 :
 ByteArray),
 ∃
 (x_117
 :
 Int),
 ∃
 (x_118
 :
 Int),
 ∃
 (x_119
 :
 ByteArray),
 ∃
 (p_8
 :
 Option
 Addr),
 ∃
 (n_14
 :
 Nat),
 ∃
 (c_8
 :
 Nat),
 ∃
 (x_120
 :
 ByteArray),
 gimp
 (true &&
 x ==
 x_104)
 (∀
 (w' :
 World),
 S
 w' →
 AtL
 w'
 n_1
 0
 [Value.string
 x_113,
 Value.string
 x_114,
 Value.string
 x_115,
 Value.string
 x_116,
 Value.int
 IntKind.i64
 x_117,
 Value.int
 IntKind.i64
 x_118,
 Value.string
 x_119,
 Value.slice
 p_8
 n_14
 c_8,
 Value.string
 x_120]) ∧
 bsp
 (true &&
 x ==
 x_104)
 (CallsS
 Tryd.prog
 8
 #[Value.agg
 #[Value.string
 x_113,
 Value.string
 x_114,
 Value.string
 x_115,
 Value.string
 x_116,
 Value.int
 IntKind.i64
 x_117,
 Value.int
 IntKind.i64
 x_118,
 Value.string
 x_119,
 Value.slice
 p_8
 n_14
 c_8,
 Value.string
 x_120]]
 w'
 fun
 (e :
 Ending)
 (w' :
 World) =>
 ∃
 (x
 :
 ByteArray),
 ∃
 (x_121
 :
 ByteArray),
 ∃
 (x_122
 :
 ByteArray),
 ∃
 (x_123
 :
 ByteArray),
 ∃
 (x_124
 :
 Int),
 ∃
 (x_125
 :
 Int),
 ∃
 (x_126
 :
 ByteArray),
 ∃
 (p_9
 :
 Option
 Addr),
 ∃
 (n_15
 :
 Nat),
 ∃
 (c_9
 :
 Nat),
 ∃
 (x_127
 :
 ByteArray),
 e =
 Ending.returned
 (Value.agg
 #[Value.string
 x,
 Value.string
 x_121,
 Value.string
 x_122,
 Value.string
 x_123,
 Value.int
 IntKind.i64
 x_124,
 Value.int
 IntKind.i64
 x_125,
 Value.string
 x_126,
 Value.slice
 p_9
 n_15
 c_9,
 Value.string
 x_127]) ∧
 S
 w' ∧
 CallsS
 Tryd.prog
 16
 #[Value.agg
 #[Value.string
 x_105,
 Value.string
 x_106,
 Value.string
 x_107,
 Value.string
 x_108,
 Value.int
 IntKind.i64
 x_109,
 Value.int
 IntKind.i64
 x_110,
 Value.string
 x_111,
 Value.slice
 p
 n
 c,
 Value.string
 x_112],
 Value.agg
 #[Value.string
 x,
 Value.string
 x_121,
 Value.string
 x_122,
 Value.string
 x_123,
 Value.int
 IntKind.i64
 x_124,
 Value.int
 IntKind.i64
 x_125,
 Value.string
 x_126,
 Value.slice
 p_9
 n_15
 c_9,
 Value.string
 x_127]]
 w'
 fun
 (e :
 Ending)
 (w' :
 World) =>
 ∃
 (x
 :
 Bool),
 e =
 Ending.returned
 (Value.bool
 x) ∧
 KeptL
 [n_2,
 n_1]
 W
 w' ∧
 R
 (Ending.returned
 (Value.bool
 (true &&
 x)))
 w')
 (S
 w' ∧
 KeptL
 [n_2,
 n_1]
 W
 w' ∧
 R
 (Ending.returned
 (Value.bool
 false))
 w'))
 (S
 w' ∧
 S
 w' ∧
 S
 w' ∧
 S
 w' ∧
 ∃
 (x
 :
 ByteArray),
 ∃
 (x
 :
 ByteArray),
 ∃
 (x
 :
 ByteArray),
 ∃
 (x
 :
 ByteArray),
 ∃
 (x
 :
 Int),
 ∃
 (x
 :
 Int),
 ∃
 (x
 :
 ByteArray),
 ∃
 (p
 :
 Option
 Addr),
 ∃
 (n
 :
 Nat),
 ∃
 (c
 :
 Nat),
 ∃
 (x
 :
 ByteArray),
 True ∧
 ∃
 (x
 :
 ByteArray),
 ∃
 (x
 :
 ByteArray),
 ∃
 (x
 :
 ByteArray),
 ∃
 (x
 :
 ByteArray),
 ∃
 (x
 :
 Int),
 ∃
 (x
 :
 Int),
 ∃
 (x
 :
 ByteArray),
 ∃
 (p
 :
 Option
 Addr),
 ∃
 (n
 :
 Nat),
 ∃
 (c
 :
 Nat),
 ∃
 (x
 :
 ByteArray),
 True ∧
 S
 w' ∧
 KeptL
 [n_2,
 n_1]
 W
 w' ∧
 R
 (Ending.returned
 (Value.bool
 false))
 w'))
 (S w' ∧
 S w' ∧
 S w' ∧
 ∃ (x :
 ByteArray),
 ∃ (x :
 ByteArray),
 ∃ (x :
 ByteArray),
 ∃ (x :
 ByteArray),
 ∃ (x :
 Int),
 ∃ (x :
 Int),
 ∃ (x :
 ByteArray),
 ∃ (p :
 Option
 Addr),
 ∃ (n
 :
 Nat),
 ∃ (c
 :
 Nat),
 ∃
 (x
 :
 ByteArray),
 True ∧
 ∃
 (x
 :
 ByteArray),
 ∃
 (x
 :
 ByteArray),
 ∃
 (x
 :
 ByteArray),
 ∃
 (x
 :
 ByteArray),
 ∃
 (x
 :
 Int),
 ∃
 (x
 :
 Int),
 ∃
 (x
 :
 ByteArray),
 ∃
 (p
 :
 Option
 Addr),
 ∃
 (n
 :
 Nat),
 ∃
 (c
 :
 Nat),
 ∃
 (x
 :
 ByteArray),
 True ∧
 ∃
 (x
 :
 ByteArray),
 ∃
 (x
 :
 ByteArray),
 ∃
 (x
 :
 ByteArray),
 ∃
 (x
 :
 ByteArray),
 ∃
 (x
 :
 Int),
 ∃
 (x
 :
 Int),
 ∃
 (x
 :
 ByteArray),
 ∃
 (p
 :
 Option
 Addr),
 ∃
 (n
 :
 Nat),
 ∃
 (c
 :
 Nat),
 ∃
 (x
 :
 ByteArray),
 True ∧
 ∃
 (x
 :
 ByteArray),
 ∃
 (x
 :
 ByteArray),
 ∃
 (x
 :
 ByteArray),
 ∃
 (x
 :
 ByteArray),
 ∃
 (x
 :
 Int),
 ∃
 (x
 :
 Int),
 ∃
 (x
 :
 ByteArray),
 ∃
 (p
 :
 Option
 Addr),
 ∃
 (n
 :
 Nat),
 ∃
 (c
 :
 Nat),
 ∃
 (x
 :
 ByteArray),
 True ∧
 S
 w' ∧
 S
 w' ∧
 S
 w' ∧
 S
 w' ∧
 ∃
 (x
 :
 ByteArray),
 ∃
 (x
 :
 ByteArray),
 ∃
 (x
 :
 ByteArray),
 ∃
 (x
 :
 ByteArray),
 ∃
 (x
 :
 Int),
 ∃
 (x
 :
 Int),
 ∃
 (x
 :
 ByteArray),
 ∃
 (p
 :
 Option
 Addr),
 ∃
 (n
 :
 Nat),
 ∃
 (c
 :
 Nat),
 ∃
 (x
 :
 ByteArray),
 True ∧
 ∃
 (x
 :
 ByteArray),
 ∃
 (x
 :
 ByteArray),
 ∃
 (x
 :
 ByteArray),
 ∃
 (x
 :
 ByteArray),
 ∃
 (x
 :
 Int),
 ∃
 (x
 :
 Int),
 ∃
 (x
 :
 ByteArray),
 ∃
 (p
 :
 Option
 Addr),
 ∃
 (n
 :
 Nat),
 ∃
 (c
 :
 Nat),
 ∃
 (x
 :
 ByteArray),
 True ∧
 S
 w' ∧
 KeptL
 [n_2,
 n_1]
 W
 w' ∧
 R
 (Ending.returned
 (Value.bool
 false))
 w')) ∧
 ∀ (n_7 : Nat) (w1 : World),
 NewB w'
 (Obj.cells
 #[Value.string (ByteArray.mk #[]),
 Value.string (ByteArray.mk #[]),
 Value.string (ByteArray.mk #[]),
 Value.string (ByteArray.mk #[]), Value.int IntKind.i64 0,
 Value.int IntKind.i64 0, Value.string (ByteArray.mk #[]),
 Value.slice none 0 0, Value.string (ByteArray.mk #[])]
 29)
 n_7 w1 →
 S w1 ∧
 ∀ (n_8 : Nat) (w1_1 : World),
 NewB w1
 (Obj.cells
 #[Value.string (ByteArray.mk #[]),
 Value.string (ByteArray.mk #[]),
 Value.string (ByteArray.mk #[]),
 Value.string (ByteArray.mk #[]),
 Value.int IntKind.i64 0, Value.int IntKind.i64 0,
 Value.string (ByteArray.mk #[]), Value.slice none 0 0,
 Value.string (ByteArray.mk #[])]
 29)
 n_8 w1_1 →
 S w1_1 ∧
 WrL w1_1 n_8 0 9 ∧
 ∀ (w1 : World),
 PutB w1_1 n_8 0
 [Value.string x, Value.string x_16,
 Value.string x_17, Value.string x_18,
 Value.int IntKind.i64 x_19,
 Value.int IntKind.i64 x_20, Value.string x_21,
 Value.slice p n_5 c, Value.string x_22]
 w1 →
 WrL w1 n_7 0 9 ∧
 ∀ (w1_2 : World),
 PutB w1 n_7 0
 [Value.string x_23, Value.string x_24,
 Value.string x_25, Value.string x_26,
 Value.int IntKind.i64 x_27,
 Value.int IntKind.i64 x_28, Value.string x_29,
 Value.slice p_2 n_6 c_2, Value.string x_30]
 w1_2 →
 KeptL [n_2, n_1] W w1_2 ∧
 ∀ (W : World),
 Loc w.heap.size
 [Blk.mk n_2 26
 [Value.string fuy, Value.string fsy,
 Value.string tuy, Value.string tsy,
 Value.int IntKind.i64 ny,
 Value.int IntKind.i64 dy, Value.string sjy,
 Value.slice hpy hny hcy, Value.string bdy]
 0,
 Blk.mk n_1 26
 [Value.string fu, Value.string fs,
 Value.string tu, Value.string ts,
 Value.int IntKind.i64 n,
 Value.int IntKind.i64 d, Value.string sj,
 Value.slice hp hn hc, Value.string bd]
 0]
 w1_2 W →
 ∃ (S : World → Prop),
 S W ∧
 CallsS Tryd.prog 13 #[] W
 fun (e : Ending) (w' : World) =>
 ∃ (x : Bool),
 e = Ending.returned (Value.bool x) ∧
 S w' ∧
 ∃ (x_31 : ByteArray),
 ∃ (x_32 : ByteArray),
 ∃ (x_33 : ByteArray),
 ∃ (x_34 : ByteArray),
 ∃ (x_35 : Int),
 ∃ (x_36 : Int),
 ∃ (x_37 : ByteArray),
 ∃ (p : Option Addr),
 ∃ (n : Nat),
 ∃ (c : Nat),
 ∃ (x_38 : ByteArray),
 gimp x
 (∀ (w' : World),
 S w' →
 AtL w' n_8 0
 [Value.string x_31,
 Value.string x_32,
 Value.string x_33,
 Value.string x_34,
 Value.int IntKind.i64
 x_35,
 Value.int IntKind.i64
 x_36,
 Value.string x_37,
 Value.slice p n c,
 Value.string x_38]) ∧
 ∃ (x_39 : ByteArray),
 ∃ (x_40 : ByteArray),
 ∃ (x_41 : ByteArray),
 ∃ (x_42 : ByteArray),
 ∃ (x_43 : Int),
 ∃ (x_44 : Int),
 ∃ (x_45 : ByteArray),
 ∃ (p_3 : Option Addr),
 ∃ (n_9 : Nat),
 ∃ (c_3 : Nat),
 ∃ (x_46 :
 ByteArray),
 gimp x
 (∀ (w' : World),
 S w' →
 AtL w' n_8 0
 [Value.string
 x_39,
 Value.string
 x_40,
 Value.string
 x_41,
 Value.string
 x_42,
 Value.int
 IntKind.i64
 x_43,
 Value.int
 IntKind.i64
 x_44,
 Value.string
 x_45,
 Value.slice
 p_3 n_9
 c_3,
 Value.string
 x_46]) ∧
 bsp x
 (CallsS
 Tryd.prog 14
 #[Value.agg
 #[Value.string
 x_31,
 Value.string
 x_32,
 Value.string
 x_33,
 Value.string
 x_34,
 Value.int
 IntKind.i64
 x_35,
 Value.int
 IntKind.i64
 x_36,
 Value.string
 x_37,
 Value.slice
 p n c,
 Value.string
 x_38]]
 w'
 fun
 (e : Ending)
 (w' :
 World) =>
 ∃ (x : Int),
 e =
 Ending.returned
 (Value.int
 IntKind.i64
 x) ∧
 S w' ∧
 CallsS
 Tryd.prog
 11
 #[Value.agg
 #[Value.string
 x_39,
 Value.string
 x_40,
 Value.string
 x_41,
 Value.string
 x_42,
 Value.int
 IntKind.i64
 x_43,
 Value.int
 IntKind.i64
 x_44,
 Value.string
 x_45,
 Value.slice
 p_3 n_9
 c_3,
 Value.string
 x_46]]
 w'
 fun
 (e :
 Ending)
 (w' :
 World) =>
 ∃ (x_47 :
 ByteArray),
 ∃ (x_48 :
 ByteArray),
 ∃ (x_49 :
 ByteArray),
 ∃ (x_50
 :
 ByteArray),
 ∃ (x_51
 :
 Int),
 ∃
 (x_52
 :
 Int),
 ∃
 (x_53
 :
 ByteArray),
 ∃ (p
 :
 Option
 Addr),
 ∃
 (n
 :
 Nat),
 ∃
 (c
 :
 Nat),
 ∃
 (x_54
 :
 ByteArray),
 e =
 Ending.returned
 (Value.agg
 #[Value.string
 x_47,
 Value.string
 x_48,
 Value.string
 x_49,
 Value.string
 x_50,
 Value.int
 IntKind.i64
 x_51,
 Value.int
 IntKind.i64
 x_52,
 Value.string
 x_53,
 Value.slice
 p
 n
 c,
 Value.string
 x_54]) ∧
 S
 w' ∧
 CallsS
 Tryd.prog
 15
 #[Value.agg
 #[Value.string
 x_47,
 Value.string
 x_48,
 Value.string
 x_49,
 Value.string
 x_50,
 Value.int
 IntKind.i64
 x_51,
 Value.int
 IntKind.i64
 x_52,
 Value.string
 x_53,
 Value.slice
 p
 n
 c,
 Value.string
 x_54]]
 w'
 fun
 (e :
 Ending)
 (w' :
 World) =>
 ∃
 (x_55
 :
 Int),
 e =
 Ending.returned
 (Value.int
 IntKind.i64
 x_55) ∧
 S
 w' ∧
 ∃
 (x_56
 :
 ByteArray),
 ∃
 (x_57
 :
 ByteArray),
 ∃
 (x_58
 :
 ByteArray),
 ∃
 (x_59
 :
 ByteArray),
 ∃
 (x_60
 :
 Int),
 ∃
 (x_61
 :
 Int),
 ∃
 (x_62
 :
 ByteArray),
 ∃
 (p
 :
 Option
 Addr),
 ∃
 (n
 :
 Nat),
 ∃
 (c
 :
 Nat),
 ∃
 (x_63
 :
 ByteArray),
 gimp
 (true &&
 x ==
 x_55)
 (∀
 (w' :
 World),
 S
 w' →
 AtL
 w'
 n_8
 0
 [Value.string
 x_56,
 Value.string
 x_57,
 Value.string
 x_58,
 Value.string
 x_59,
 Value.int
 IntKind.i64
 x_60,
 Value.int
 IntKind.i64
 x_61,
 Value.string
 x_62,
 Value.slice
 p
 n
 c,
 Value.string
 x_63]) ∧
 ∃
 (x_64
 :
 ByteArray),
 ∃
 (x_65
 :
 ByteArray),
 ∃
 (x_66
 :
 ByteArray),
 ∃
 (x_67
 :
 ByteArray),
 ∃
 (x_68
 :
 Int),
 ∃
 (x_69
 :
 Int),
 ∃
 (x_70
 :
 ByteArray),
 ∃
 (p_4
 :
 Option
 Addr),
 ∃
 (n_10
 :
 Nat),
 ∃
 (c_4
 :
 Nat),
 ∃
 (x_71
 :
 ByteArray),
 gimp
 (true &&
 x ==
 x_55)
 (∀
 (w' :
 World),
 S
 w' →
 AtL
 w'
 n_7
 0
 [Value.string
 x_64,
 Value.string
 x_65,
 Value.string
 x_66,
 Value.string
 x_67,
 Value.int
 IntKind.i64
 x_68,
 Value.int
 IntKind.i64
 x_69,
 Value.string
 x_70,
 Value.slice
 p_4
 n_10
 c_4,
 Value.string
 x_71]) ∧
 ∃
 (x_72
 :
 ByteArray),
 ∃
 (x_73
 :
 ByteArray),
 ∃
 (x_74
 :
 ByteArray),
 ∃
 (x_75
 :
 ByteArray),
 ∃
 (x_76
 :
 Int),
 ∃
 (x_77
 :
 Int),
 ∃
 (x_78
 :
 ByteArray),
 ∃
 (p_5
 :
 Option
 Addr),
 ∃
 (n_11
 :
 Nat),
 ∃
 (c_5
 :
 Nat),
 ∃
 (x_79
 :
 ByteArray),
 gimp
 (true &&
 x ==
 x_55)
 (∀
 (w' :
 World),
 S
 w' →
 AtL
 w'
 n_8
 0
 [Value.string
 x_72,
 Value.string
 x_73,
 Value.string
 x_74,
 Value.string
 x_75,
 Value.int
 IntKind.i64
 x_76,
 Value.int
 IntKind.i64
 x_77,
 Value.string
 x_78,
 Value.slice
 p_5
 n_11
 c_5,
 Value.string
 x_79]) ∧
 ∃
 (x_80
 :
 ByteArray),
 ∃
 (x_81
 :
 ByteArray),
 ∃
 (x_82
 :
 ByteArray),
 ∃
 (x_83
 :
 ByteArray),
 ∃
 (x_84
 :
 Int),
 ∃
 (x_85
 :
 Int),
 ∃
 (x_86
 :
 ByteArray),
 ∃
 (p_6
 :
 Option
 Addr),
 ∃
 (n_12
 :
 Nat),
 ∃
 (c_6
 :
 Nat),
 ∃
 (x_87
 :
 ByteArray),
 gimp
 (true &&
 x ==
 x_55)
 (∀
 (w' :
 World),
 S
 w' →
 AtL
 w'
 n_7
 0
 [Value.string
 x_80,
 Value.string
 x_81,
 Value.string
 x_82,
 Value.string
 x_83,
 Value.int
 IntKind.i64
 x_84,
 Value.int
 IntKind.i64
 x_85,
 Value.string
 x_86,
 Value.slice
 p_6
 n_12
 c_6,
 Value.string
 x_87]) ∧
 bsp
 (true &&
 x ==
 x_55)
 (CallsS
 Tryd.prog
 16
 #[Value.agg
 #[Value.string
 x_56,
 Value.string
 x_57,
 Value.string
 x_58,
 Value.string
 x_59,
 Value.int
 IntKind.i64
 x_60,
 Value.int
 IntKind.i64
 x_61,
 Value.string
 x_62,
 Value.slice
 p
 n
 c,
 Value.string
 x_63],
 Value.agg
 #[Value.string
 x_64,
 Value.string
 x_65,
 Value.string
 x_66,
 Value.string
 x_67,
 Value.int
 IntKind.i64
 x_68,
 Value.int
 IntKind.i64
 x_69,
 Value.string
 x_70,
 Value.slice
 p_4
 n_10
 c_4,
 Value.string
 x_71]]
 w'
 fun
 (e :
 Ending)
 (w' :
 World) =>
 ∃
 (x
 :
 Bool),
 e =
 Ending.returned
 (Value.bool
 x) ∧
 S
 w' ∧
 CallsS
 Tryd.prog
 11
 #[Value.agg
 #[Value.string
 x_72,
 Value.string
 x_73,
 Value.string
 x_74,
 Value.string
 x_75,
 Value.int
 IntKind.i64
 x_76,
 Value.int
 IntKind.i64
 x_77,
 Value.string
 x_78,
 Value.slice
 p_5
 n_11
 c_5,
 Value.string
 x_79]]
 w'
 fun
 (e :
 Ending)
 (w' :
 World) =>
 ∃
 (x_88
 :
 ByteArray),
 ∃
 (x_89
 :
 ByteArray),
 ∃
 (x_90
 :
 ByteArray),
 ∃
 (x_91
 :
 ByteArray),
 ∃
 (x_92
 :
 Int),
 ∃
 (x_93
 :
 Int),
 ∃
 (x_94
 :
 ByteArray),
 ∃
 (p
 :
 Option
 Addr),
 ∃
 (n
 :
 Nat),
 ∃
 (c
 :
 Nat),
 ∃
 (x_95
 :
 ByteArray),
 e =
 Ending.returned
 (Value.agg
 #[Value.string
 x_88,
 Value.string
 x_89,
 Value.string
 x_90,
 Value.string
 x_91,
 Value.int
 IntKind.i64
 x_92,
 Value.int
 IntKind.i64
 x_93,
 Value.string
 x_94,
 Value.slice
 p
 n
 c,
 Value.string
 x_95]) ∧
 S
 w' ∧
 CallsS
 Tryd.prog
 11
 #[Value.agg
 #[Value.string
 x_80,
 Value.string
 x_81,
 Value.string
 x_82,
 Value.string
 x_83,
 Value.int
 IntKind.i64
 x_84,
 Value.int
 IntKind.i64
 x_85,
 Value.string
 x_86,
 Value.slice
 p_6
 n_12
 c_6,
 Value.string
 x_87]]
 w'
 fun
 (e :
 Ending)
 (w' :
 World) =>
 ∃
 (x_96
 :
 ByteArray),
 ∃
 (x_97
 :
 ByteArray),
 ∃
 (x_98
 :
 ByteArray),
 ∃
 (x_99
 :
 ByteArray),
 ∃
 (x_100
 :
 Int),
 ∃
 (x_101
 :
 Int),
 ∃
 (x_102
 :
 ByteArray),
 ∃
 (p_7
 :
 Option
 Addr),
 ∃
 (n_13
 :
 Nat),
 ∃
 (c_7
 :
 Nat),
 ∃
 (x_103
 :
 ByteArray),
 e =
 Ending.returned
 (Value.agg
 #[Value.string
 x_96,
 Value.string
 x_97,
 Value.string
 x_98,
 Value.string
 x_99,
 Value.int
 IntKind.i64
 x_100,
 Value.int
 IntKind.i64
 x_101,
 Value.string
 x_102,
 Value.slice
 p_7
 n_13
 c_7,
 Value.string
 x_103]) ∧
 S
 w' ∧
 CallsS
 Tryd.prog
 12
 #[Value.agg
 #[Value.string
 x_88,
 Value.string
 x_89,
 Value.string
 x_90,
 Value.string
 x_91,
 Value.int
 IntKind.i64
 x_92,
 Value.int
 IntKind.i64
 x_93,
 Value.string
 x_94,
 Value.slice
 p
 n
 c,
 Value.string
 x_95],
 Value.agg
 #[Value.string
 x_96,
 Value.string
 x_97,
 Value.string
 x_98,
 Value.string
 x_99,
 Value.int
 IntKind.i64
 x_100,
 Value.int
 IntKind.i64
 x_101,
 Value.string
 x_102,
 Value.slice
 p_7
 n_13
 c_7,
 Value.string
 x_103]]
 w'
 fun
 (e :
 Ending)
 (w' :
 World) =>
 ∃
 (x_104
 :
 Bool),
 e =
 Ending.returned
 (Value.bool
 x_104) ∧
 S
 w' ∧
 ∃
 (x_105
 :
 ByteArray),
 ∃
 (x_106
 :
 ByteArray),
 ∃
 (x_107
 :
 ByteArray),
 ∃
 (x_108
 :
 ByteArray),
 ∃
 (x_109
 :
 Int),
 ∃
 (x_110
 :
 Int),
 ∃
 (x_111
 :
 ByteArray),
 ∃
 (p
 :
 Option
 Addr),
 ∃
 (n
 :
 Nat),
 ∃
 (c
 :
 Nat),
 ∃
 (x_112
 :
 ByteArray),
 gimp
 (true &&
 x ==
 x_104)
 (∀
 (w' :
 World),
 S
 w' →
 AtL
 w'
 n_8
 0
 [Value.string
 x_105,
 Value.string
 x_106,
 Value.string
 x_107,
 Value.string
 x_108,
 Value.int
 IntKind.i64
 x_109,
 Value.int
 IntKind.i64
 x_110,
 Value.string
 x_111,
 Value.slice
 p
 n
 c,
 Value.string
 x_112]) ∧
 ∃
 (x_113
 :
 ByteArray),
 ∃
 (x_114
 :
 ByteArray),
 ∃
 (x_115
 :
 ByteArray),
 ∃
 (x_116
 :
 ByteArray),
 ∃
 (x_117
 :
 Int),
 ∃
 (x_118
 :
 Int),
 ∃
 (x_119
 :
 ByteArray),
 ∃
 (p_8
 :
 Option
 Addr),
 ∃
 (n_14
 :
 Nat),
 ∃
 (c_8
 :
 Nat),
 ∃
 (x_120
 :
 ByteArray),
 gimp
 (true &&
 x ==
 x_104)
 (∀
 (w' :
 World),
 S
 w' →
 AtL
 w'
 n_1
 0
 [Value.string
 x_113,
 Value.string
 x_114,
 Value.string
 x_115,
 Value.string
 x_116,
 Value.int
 IntKind.i64
 x_117,
 Value.int
 IntKind.i64
 x_118,
 Value.string
 x_119,
 Value.slice
 p_8
 n_14
 c_8,
 Value.string
 x_120]) ∧
 bsp
 (true &&
 x ==
 x_104)
 (CallsS
 Tryd.prog
 8
 #[Value.agg
 #[Value.string
 x_113,
 Value.string
 x_114,
 Value.string
 x_115,
 Value.string
 x_116,
 Value.int
 IntKind.i64
 x_117,
 Value.int
 IntKind.i64
 x_118,
 Value.string
 x_119,
 Value.slice
 p_8
 n_14
 c_8,
 Value.string
 x_120]]
 w'
 fun
 (e :
 Ending)
 (w' :
 World) =>
 ∃
 (x
 :
 ByteArray),
 ∃
 (x_121
 :
 ByteArray),
 ∃
 (x_122
 :
 ByteArray),
 ∃
 (x_123
 :
 ByteArray),
 ∃
 (x_124
 :
 Int),
 ∃
 (x_125
 :
 Int),
 ∃
 (x_126
 :
 ByteArray),
 ∃
 (p_9
 :
 Option
 Addr),
 ∃
 (n_15
 :
 Nat),
 ∃
 (c_9
 :
 Nat),
 ∃
 (x_127
 :
 ByteArray),
 e =
 Ending.returned
 (Value.agg
 #[Value.string
 x,
 Value.string
 x_121,
 Value.string
 x_122,
 Value.string
 x_123,
 Value.int
 IntKind.i64
 x_124,
 Value.int
 IntKind.i64
 x_125,
 Value.string
 x_126,
 Value.slice
 p_9
 n_15
 c_9,
 Value.string
 x_127]) ∧
 S
 w' ∧
 CallsS
 Tryd.prog
 16
 #[Value.agg
 #[Value.string
 x_105,
 Value.string
 x_106,
 Value.string
 x_107,
 Value.string
 x_108,
 Value.int
 IntKind.i64
 x_109,
 Value.int
 IntKind.i64
 x_110,
 Value.string
 x_111,
 Value.slice
 p
 n
 c,
 Value.string
 x_112],
 Value.agg
 #[Value.string
 x,
 Value.string
 x_121,
 Value.string
 x_122,
 Value.string
 x_123,
 Value.int
 IntKind.i64
 x_124,
 Value.int
 IntKind.i64
 x_125,
 Value.string
 x_126,
 Value.slice
 p_9
 n_15
 c_9,
 Value.string
 x_127]]
 w'
 fun
 (e :
 Ending)
 (w' :
 World) =>
 ∃
 (x
 :
 Bool),
 e =
 Ending.returned
 (Value.bool
 x) ∧
 KeptL
 [n_2,
 n_1]
 W
 w' ∧
 R
 (Ending.returned
 (Value.bool
 (true &&
 x)))
 w')
 (S
 w' ∧
 KeptL
 [n_2,
 n_1]
 W
 w' ∧
 R
 (Ending.returned
 (Value.bool
 false))
 w'))
 (S
 w' ∧
 S
 w' ∧
 S
 w' ∧
 S
 w' ∧
 ∃
 (x
 :
 ByteArray),
 ∃
 (x
 :
 ByteArray),
 ∃
 (x
 :
 ByteArray),
 ∃
 (x
 :
 ByteArray),
 ∃
 (x
 :
 Int),
 ∃
 (x
 :
 Int),
 ∃
 (x
 :
 ByteArray),
 ∃
 (p
 :
 Option
 Addr),
 ∃
 (n
 :
 Nat),
 ∃
 (c
 :
 Nat),
 ∃
 (x
 :
 ByteArray),
 True ∧
 ∃
 (x
 :
 ByteArray),
 ∃
 (x
 :
 ByteArray),
 ∃
 (x
 :
 ByteArray),
 ∃
 (x
 :
 ByteArray),
 ∃
 (x
 :
 Int),
 ∃
 (x
 :
 Int),
 ∃
 (x
 :
 ByteArray),
 ∃
 (p
 :
 Option
 Addr),
 ∃
 (n
 :
 Nat),
 ∃
 (c
 :
 Nat),
 ∃
 (x
 :
 ByteArray),
 True ∧
 S
 w' ∧
 KeptL
 [n_2,
 n_1]
 W
 w' ∧
 R
 (Ending.returned
 (Value.bool
 false))
 w'))
 (S w' ∧
 S w' ∧
 S w' ∧
 ∃ (x :
 ByteArray),
 ∃ (x :
 ByteArray),
 ∃ (x :
 ByteArray),
 ∃ (x :
 ByteArray),
 ∃ (x :
 Int),
 ∃ (x :
 Int),
 ∃ (x :
 ByteArray),
 ∃ (p :
 Option
 Addr),
 ∃ (n
 :
 Nat),
 ∃ (c
 :
 Nat),
 ∃
 (x
 :
 ByteArray),
 True ∧
 ∃
 (x
 :
 ByteArray),
 ∃
 (x
 :
 ByteArray),
 ∃
 (x
 :
 ByteArray),
 ∃
 (x
 :
 ByteArray),
 ∃
 (x
 :
 Int),
 ∃
 (x
 :
 Int),
 ∃
 (x
 :
 ByteArray),
 ∃
 (p
 :
 Option
 Addr),
 ∃
 (n
 :
 Nat),
 ∃
 (c
 :
 Nat),
 ∃
 (x
 :
 ByteArray),
 True ∧
 ∃
 (x
 :
 ByteArray),
 ∃
 (x
 :
 ByteArray),
 ∃
 (x
 :
 ByteArray),
 ∃
 (x
 :
 ByteArray),
 ∃
 (x
 :
 Int),
 ∃
 (x
 :
 Int),
 ∃
 (x
 :
 ByteArray),
 ∃
 (p
 :
 Option
 Addr),
 ∃
 (n
 :
 Nat),
 ∃
 (c
 :
 Nat),
 ∃
 (x
 :
 ByteArray),
 True ∧
 ∃
 (x
 :
 ByteArray),
 ∃
 (x
 :
 ByteArray),
 ∃
 (x
 :
 ByteArray),
 ∃
 (x
 :
 ByteArray),
 ∃
 (x
 :
 Int),
 ∃
 (x
 :
 Int),
 ∃
 (x
 :
 ByteArray),
 ∃
 (p
 :
 Option
 Addr),
 ∃
 (n
 :
 Nat),
 ∃
 (c
 :
 Nat),
 ∃
 (x
 :
 ByteArray),
 True ∧
 S
 w' ∧
 S
 w' ∧
 S
 w' ∧
 S
 w' ∧
 ∃
 (x
 :
 ByteArray),
 ∃
 (x
 :
 ByteArray),
 ∃
 (x
 :
 ByteArray),
 ∃
 (x
 :
 ByteArray),
 ∃
 (x
 :
 Int),
 ∃
 (x
 :
 Int),
 ∃
 (x
 :
 ByteArray),
 ∃
 (p
 :
 Option
 Addr),
 ∃
 (n
 :
 Nat),
 ∃
 (c
 :
 Nat),
 ∃
 (x
 :
 ByteArray),
 True ∧
 ∃
 (x
 :
 ByteArray),
 ∃
 (x
 :
 ByteArray),
 ∃
 (x
 :
 ByteArray),
 ∃
 (x
 :
 ByteArray),
 ∃
 (x
 :
 Int),
 ∃
 (x
 :
 Int),
 ∃
 (x
 :
 ByteArray),
 ∃
 (p
 :
 Option
 Addr),
 ∃
 (n
 :
 Nat),
 ∃
 (c
 :
 Nat),
 ∃
 (x
 :
 ByteArray),
 True ∧
 S
 w' ∧
 KeptL
 [n_2,
 n_1]
 W
 w' ∧
 R
 (Ending.returned
 (Value.bool
 false))
 w')) ∧
 (∀ (n_6 : Nat) (w1 : World),
 NewB w'
 (Obj.cells
 #[Value.string (ByteArray.mk #[]), Value.string (ByteArray.mk #[]),
 Value.string (ByteArray.mk #[]), Value.string (ByteArray.mk #[]),
 Value.int IntKind.i64 0, Value.int IntKind.i64 0,
 Value.string (ByteArray.mk #[]), Value.slice none 0 0,
 Value.string (ByteArray.mk #[])]
 29)
 n_6 w1 →
 S w1 ∧
 (CallsS Tryd.prog 8
 #[Value.agg
 #[Value.string x_8, Value.string x_9, Value.string x_10,
 Value.string x_11, Value.int IntKind.i64 x_12,
 Value.int IntKind.i64 x_13, Value.string x_14,
 Value.slice p_1 n_4 c_1, Value.string x_15]]
 w1 fun (e : Ending) (w' : World) =>
 ∃ (x_23 : ByteArray),
 ∃ (x_24 : ByteArray),
 ∃ (x_25 : ByteArray),
 ∃ (x_26 : ByteArray),
 ∃ (x_27 : Int),
 ∃ (x_28 : Int),
 ∃ (x_29 : ByteArray),
 ∃ (p_2 : Option Addr),
 ∃ (n_7 : Nat),
 ∃ (c_2 : Nat),
 ∃ (x_30 : ByteArray),
 e =
 Ending.returned
 (Value.agg
 #[Value.string x_23, Value.string x_24,
 Value.string x_25, Value.string x_26,
 Value.int IntKind.i64 x_27,
 Value.int IntKind.i64 x_28, Value.string x_29,
 Value.slice p_2 n_7 c_2, Value.string x_30]) ∧
 ∀ (n_8 : Nat) (w1 : World),
 NewB w'
 (Obj.cells
 #[Value.string (ByteArray.mk #[]),
 Value.string (ByteArray.mk #[]),
 Value.string (ByteArray.mk #[]),
 Value.string (ByteArray.mk #[]),
 Value.int IntKind.i64 0, Value.int IntKind.i64 0,
 Value.string (ByteArray.mk #[]),
 Value.slice none 0 0,
 Value.string (ByteArray.mk #[])]
 29)
 n_8 w1 →
 S w1 ∧
 WrL w1 n_6 0 9 ∧
 ∀ (w1_1 : World),
 PutB w1 n_6 0
 [Value.string x, Value.string x_16,
 Value.string x_17, Value.string x_18,
 Value.int IntKind.i64 x_19,
 Value.int IntKind.i64 x_20, Value.string x_21,
 Value.slice p n_5 c, Value.string x_22]
 w1_1 →
 WrL w1_1 n_8 0 9 ∧
 ∀ (w1 : World),
 PutB w1_1 n_8 0
 [Value.string x_23, Value.string x_24,
 Value.string x_25, Value.string x_26,
 Value.int IntKind.i64 x_27,
 Value.int IntKind.i64 x_28, Value.string x_29,
 Value.slice p_2 n_7 c_2, Value.string x_30]
 w1 →
 KeptL [n_2, n_1] W w1 ∧
 ∀ (W : World),
 Loc w.heap.size
 [Blk.mk n_2 26
 [Value.string fuy, Value.string fsy,
 Value.string tuy, Value.string tsy,
 Value.int IntKind.i64 ny,
 Value.int IntKind.i64 dy,
 Value.string sjy, Value.slice hpy hny hcy,
 Value.string bdy]
 0,
 Blk.mk n_1 26
 [Value.string fu, Value.string fs,
 Value.string tu, Value.string ts,
 Value.int IntKind.i64 n,
 Value.int IntKind.i64 d, Value.string sj,
 Value.slice hp hn hc, Value.string bd]
 0]
 w1 W →
 ∃ (S : World → Prop),
 S W ∧
 CallsS Tryd.prog 13 #[] W
 fun (e : Ending) (w' : World) =>
 ∃ (x : Bool),
 e = Ending.returned (Value.bool x) ∧
 S w' ∧
 ∃ (x_31 : ByteArray),
 ∃ (x_32 : ByteArray),
 ∃ (x_33 : ByteArray),
 ∃ (x_34 : ByteArray),
 ∃ (x_35 : Int),
 ∃ (x_36 : Int),
 ∃ (x_37 : ByteArray),
 ∃ (p : Option Addr),
 ∃ (n : Nat),
 ∃ (c : Nat),
 ∃ (x_38 : ByteArray),
 gimp x
 (∀ (w' : World),
 S w' →
 AtL w' n_6 0
 [Value.string x_31,
 Value.string x_32,
 Value.string x_33,
 Value.string x_34,
 Value.int IntKind.i64
 x_35,
 Value.int IntKind.i64
 x_36,
 Value.string x_37,
 Value.slice p n c,
 Value.string x_38]) ∧
 ∃ (x_39 : ByteArray),
 ∃ (x_40 : ByteArray),
 ∃ (x_41 : ByteArray),
 ∃ (x_42 : ByteArray),
 ∃ (x_43 : Int),
 ∃ (x_44 : Int),
 ∃ (x_45 : ByteArray),
 ∃ (p_3 :
 Option Addr),
 ∃ (n_9 : Nat),
 ∃ (c_3 : Nat),
 ∃ (x_46 :
 ByteArray),
 gimp x
 (∀
 (w' : World),
 S w' →
 AtL w' n_6 0
 [Value.string
 x_39,
 Value.string
 x_40,
 Value.string
 x_41,
 Value.string
 x_42,
 Value.int
 IntKind.i64
 x_43,
 Value.int
 IntKind.i64
 x_44,
 Value.string
 x_45,
 Value.slice
 p_3 n_9
 c_3,
 Value.string
 x_46]) ∧
 bsp x
 (CallsS
 Tryd.prog 14
 #[Value.agg
 #[Value.string
 x_31,
 Value.string
 x_32,
 Value.string
 x_33,
 Value.string
 x_34,
 Value.int
 IntKind.i64
 x_35,
 Value.int
 IntKind.i64
 x_36,
 Value.string
 x_37,
 Value.slice
 p n c,
 Value.string
 x_38]]
 w'
 fun
 (e : Ending)
 (w' :
 World) =>
 ∃ (x : Int),
 e =
 Ending.returned
 (Value.int
 IntKind.i64
 x) ∧
 S w' ∧
 CallsS
 Tryd.prog
 11
 #[Value.agg
 #[Value.string
 x_39,
 Value.string
 x_40,
 Value.string
 x_41,
 Value.string
 x_42,
 Value.int
 IntKind.i64
 x_43,
 Value.int
 IntKind.i64
 x_44,
 Value.string
 x_45,
 Value.slice
 p_3
 n_9
 c_3,
 Value.string
 x_46]]
 w'
 fun
 (e :
 Ending)
 (w' :
 World) =>
 ∃ (x_47 :
 ByteArray),
 ∃ (x_48 :
 ByteArray),
 ∃ (x_49
 :
 ByteArray),
 ∃ (x_50
 :
 ByteArray),
 ∃
 (x_51
 :
 Int),
 ∃
 (x_52
 :
 Int),
 ∃
 (x_53
 :
 ByteArray),
 ∃
 (p
 :
 Option
 Addr),
 ∃
 (n
 :
 Nat),
 ∃
 (c
 :
 Nat),
 ∃
 (x_54
 :
 ByteArray),
 e =
 Ending.returned
 (Value.agg
 #[Value.string
 x_47,
 Value.string
 x_48,
 Value.string
 x_49,
 Value.string
 x_50,
 Value.int
 IntKind.i64
 x_51,
 Value.int
 IntKind.i64
 x_52,
 Value.string
 x_53,
 Value.slice
 p
 n
 c,
 Value.string
 x_54]) ∧
 S
 w' ∧
 CallsS
 Tryd.prog
 15
 #[Value.agg
 #[Value.string
 x_47,
 Value.string
 x_48,
 Value.string
 x_49,
 Value.string
 x_50,
 Value.int
 IntKind.i64
 x_51,
 Value.int
 IntKind.i64
 x_52,
 Value.string
 x_53,
 Value.slice
 p
 n
 c,
 Value.string
 x_54]]
 w'
 fun
 (e :
 Ending)
 (w' :
 World) =>
 ∃
 (x_55
 :
 Int),
 e =
 Ending.returned
 (Value.int
 IntKind.i64
 x_55) ∧
 S
 w' ∧
 ∃
 (x_56
 :
 ByteArray),
 ∃
 (x_57
 :
 ByteArray),
 ∃
 (x_58
 :
 ByteArray),
 ∃
 (x_59
 :
 ByteArray),
 ∃
 (x_60
 :
 Int),
 ∃
 (x_61
 :
 Int),
 ∃
 (x_62
 :
 ByteArray),
 ∃
 (p
 :
 Option
 Addr),
 ∃
 (n
 :
 Nat),
 ∃
 (c
 :
 Nat),
 ∃
 (x_63
 :
 ByteArray),
 gimp
 (true &&
 x ==
 x_55)
 (∀
 (w' :
 World),
 S
 w' →
 AtL
 w'
 n_6
 0
 [Value.string
 x_56,
 Value.string
 x_57,
 Value.string
 x_58,
 Value.string
 x_59,
 Value.int
 IntKind.i64
 x_60,
 Value.int
 IntKind.i64
 x_61,
 Value.string
 x_62,
 Value.slice
 p
 n
 c,
 Value.string
 x_63]) ∧
 ∃
 (x_64
 :
 ByteArray),
 ∃
 (x_65
 :
 ByteArray),
 ∃
 (x_66
 :
 ByteArray),
 ∃
 (x_67
 :
 ByteArray),
 ∃
 (x_68
 :
 Int),
 ∃
 (x_69
 :
 Int),
 ∃
 (x_70
 :
 ByteArray),
 ∃
 (p_4
 :
 Option
 Addr),
 ∃
 (n_10
 :
 Nat),
 ∃
 (c_4
 :
 Nat),
 ∃
 (x_71
 :
 ByteArray),
 gimp
 (true &&
 x ==
 x_55)
 (∀
 (w' :
 World),
 S
 w' →
 AtL
 w'
 n_8
 0
 [Value.string
 x_64,
 Value.string
 x_65,
 Value.string
 x_66,
 Value.string
 x_67,
 Value.int
 IntKind.i64
 x_68,
 Value.int
 IntKind.i64
 x_69,
 Value.string
 x_70,
 Value.slice
 p_4
 n_10
 c_4,
 Value.string
 x_71]) ∧
 ∃
 (x_72
 :
 ByteArray),
 ∃
 (x_73
 :
 ByteArray),
 ∃
 (x_74
 :
 ByteArray),
 ∃
 (x_75
 :
 ByteArray),
 ∃
 (x_76
 :
 Int),
 ∃
 (x_77
 :
 Int),
 ∃
 (x_78
 :
 ByteArray),
 ∃
 (p_5
 :
 Option
 Addr),
 ∃
 (n_11
 :
 Nat),
 ∃
 (c_5
 :
 Nat),
 ∃
 (x_79
 :
 ByteArray),
 gimp
 (true &&
 x ==
 x_55)
 (∀
 (w' :
 World),
 S
 w' →
 AtL
 w'
 n_6
 0
 [Value.string
 x_72,
 Value.string
 x_73,
 Value.string
 x_74,
 Value.string
 x_75,
 Value.int
 IntKind.i64
 x_76,
 Value.int
 IntKind.i64
 x_77,
 Value.string
 x_78,
 Value.slice
 p_5
 n_11
 c_5,
 Value.string
 x_79]) ∧
 ∃
 (x_80
 :
 ByteArray),
 ∃
 (x_81
 :
 ByteArray),
 ∃
 (x_82
 :
 ByteArray),
 ∃
 (x_83
 :
 ByteArray),
 ∃
 (x_84
 :
 Int),
 ∃
 (x_85
 :
 Int),
 ∃
 (x_86
 :
 ByteArray),
 ∃
 (p_6
 :
 Option
 Addr),
 ∃
 (n_12
 :
 Nat),
 ∃
 (c_6
 :
 Nat),
 ∃
 (x_87
 :
 ByteArray),
 gimp
 (true &&
 x ==
 x_55)
 (∀
 (w' :
 World),
 S
 w' →
 AtL
 w'
 n_8
 0
 [Value.string
 x_80,
 Value.string
 x_81,
 Value.string
 x_82,
 Value.string
 x_83,
 Value.int
 IntKind.i64
 x_84,
 Value.int
 IntKind.i64
 x_85,
 Value.string
 x_86,
 Value.slice
 p_6
 n_12
 c_6,
 Value.string
 x_87]) ∧
 bsp
 (true &&
 x ==
 x_55)
 (CallsS
 Tryd.prog
 16
 #[Value.agg
 #[Value.string
 x_56,
 Value.string
 x_57,
 Value.string
 x_58,
 Value.string
 x_59,
 Value.int
 IntKind.i64
 x_60,
 Value.int
 IntKind.i64
 x_61,
 Value.string
 x_62,
 Value.slice
 p
 n
 c,
 Value.string
 x_63],
 Value.agg
 #[Value.string
 x_64,
 Value.string
 x_65,
 Value.string
 x_66,
 Value.string
 x_67,
 Value.int
 IntKind.i64
 x_68,
 Value.int
 IntKind.i64
 x_69,
 Value.string
 x_70,
 Value.slice
 p_4
 n_10
 c_4,
 Value.string
 x_71]]
 w'
 fun
 (e :
 Ending)
 (w' :
 World) =>
 ∃
 (x
 :
 Bool),
 e =
 Ending.returned
 (Value.bool
 x) ∧
 S
 w' ∧
 CallsS
 Tryd.prog
 11
 #[Value.agg
 #[Value.string
 x_72,
 Value.string
 x_73,
 Value.string
 x_74,
 Value.string
 x_75,
 Value.int
 IntKind.i64
 x_76,
 Value.int
 IntKind.i64
 x_77,
 Value.string
 x_78,
 Value.slice
 p_5
 n_11
 c_5,
 Value.string
 x_79]]
 w'
 fun
 (e :
 Ending)
 (w' :
 World) =>
 ∃
 (x_88
 :
 ByteArray),
 ∃
 (x_89
 :
 ByteArray),
 ∃
 (x_90
 :
 ByteArray),
 ∃
 (x_91
 :
 ByteArray),
 ∃
 (x_92
 :
 Int),
 ∃
 (x_93
 :
 Int),
 ∃
 (x_94
 :
 ByteArray),
 ∃
 (p
 :
 Option
 Addr),
 ∃
 (n
 :
 Nat),
 ∃
 (c
 :
 Nat),
 ∃
 (x_95
 :
 ByteArray),
 e =
 Ending.returned
 (Value.agg
 #[Value.string
 x_88,
 Value.string
 x_89,
 Value.string
 x_90,
 Value.string
 x_91,
 Value.int
 IntKind.i64
 x_92,
 Value.int
 IntKind.i64
 x_93,
 Value.string
 x_94,
 Value.slice
 p
 n
 c,
 Value.string
 x_95]) ∧
 S
 w' ∧
 CallsS
 Tryd.prog
 11
 #[Value.agg
 #[Value.string
 x_80,
 Value.string
 x_81,
 Value.string
 x_82,
 Value.string
 x_83,
 Value.int
 IntKind.i64
 x_84,
 Value.int
 IntKind.i64
 x_85,
 Value.string
 x_86,
 Value.slice
 p_6
 n_12
 c_6,
 Value.string
 x_87]]
 w'
 fun
 (e :
 Ending)
 (w' :
 World) =>
 ∃
 (x_96
 :
 ByteArray),
 ∃
 (x_97
 :
 ByteArray),
 ∃
 (x_98
 :
 ByteArray),
 ∃
 (x_99
 :
 ByteArray),
 ∃
 (x_100
 :
 Int),
 ∃
 (x_101
 :
 Int),
 ∃
 (x_102
 :
 ByteArray),
 ∃
 (p_7
 :
 Option
 Addr),
 ∃
 (n_13
 :
 Nat),
 ∃
 (c_7
 :
 Nat),
 ∃
 (x_103
 :
 ByteArray),
 e =
 Ending.returned
 (Value.agg
 #[Value.string
 x_96,
 Value.string
 x_97,
 Value.string
 x_98,
 Value.string
 x_99,
 Value.int
 IntKind.i64
 x_100,
 Value.int
 IntKind.i64
 x_101,
 Value.string
 x_102,
 Value.slice
 p_7
 n_13
 c_7,
 Value.string
 x_103]) ∧
 S
 w' ∧
 CallsS
 Tryd.prog
 12
 #[Value.agg
 #[Value.string
 x_88,
 Value.string
 x_89,
 Value.string
 x_90,
 Value.string
 x_91,
 Value.int
 IntKind.i64
 x_92,
 Value.int
 IntKind.i64
 x_93,
 Value.string
 x_94,
 Value.slice
 p
 n
 c,
 Value.string
 x_95],
 Value.agg
 #[Value.string
 x_96,
 Value.string
 x_97,
 Value.string
 x_98,
 Value.string
 x_99,
 Value.int
 IntKind.i64
 x_100,
 Value.int
 IntKind.i64
 x_101,
 Value.string
 x_102,
 Value.slice
 p_7
 n_13
 c_7,
 Value.string
 x_103]]
 w'
 fun
 (e :
 Ending)
 (w' :
 World) =>
 ∃
 (x_104
 :
 Bool),
 e =
 Ending.returned
 (Value.bool
 x_104) ∧
 S
 w' ∧
 ∃
 (x_105
 :
 ByteArray),
 ∃
 (x_106
 :
 ByteArray),
 ∃
 (x_107
 :
 ByteArray),
 ∃
 (x_108
 :
 ByteArray),
 ∃
 (x_109
 :
 Int),
 ∃
 (x_110
 :
 Int),
 ∃
 (x_111
 :
 ByteArray),
 ∃
 (p
 :
 Option
 Addr),
 ∃
 (n
 :
 Nat),
 ∃
 (c
 :
 Nat),
 ∃
 (x_112
 :
 ByteArray),
 gimp
 (true &&
 x ==
 x_104)
 (∀
 (w' :
 World),
 S
 w' →
 AtL
 w'
 n_6
 0
 [Value.string
 x_105,
 Value.string
 x_106,
 Value.string
 x_107,
 Value.string
 x_108,
 Value.int
 IntKind.i64
 x_109,
 Value.int
 IntKind.i64
 x_110,
 Value.string
 x_111,
 Value.slice
 p
 n
 c,
 Value.string
 x_112]) ∧
 ∃
 (x_113
 :
 ByteArray),
 ∃
 (x_114
 :
 ByteArray),
 ∃
 (x_115
 :
 ByteArray),
 ∃
 (x_116
 :
 ByteArray),
 ∃
 (x_117
 :
 Int),
 ∃
 (x_118
 :
 Int),
 ∃
 (x_119
 :
 ByteArray),
 ∃
 (p_8
 :
 Option
 Addr),
 ∃
 (n_14
 :
 Nat),
 ∃
 (c_8
 :
 Nat),
 ∃
 (x_120
 :
 ByteArray),
 gimp
 (true &&
 x ==
 x_104)
 (∀
 (w' :
 World),
 S
 w' →
 AtL
 w'
 n_1
 0
 [Value.string
 x_113,
 Value.string
 x_114,
 Value.string
 x_115,
 Value.string
 x_116,
 Value.int
 IntKind.i64
 x_117,
 Value.int
 IntKind.i64
 x_118,
 Value.string
 x_119,
 Value.slice
 p_8
 n_14
 c_8,
 Value.string
 x_120]) ∧
 bsp
 (true &&
 x ==
 x_104)
 (CallsS
 Tryd.prog
 8
 #[Value.agg
 #[Value.string
 x_113,
 Value.string
 x_114,
 Value.string
 x_115,
 Value.string
 x_116,
 Value.int
 IntKind.i64
 x_117,
 Value.int
 IntKind.i64
 x_118,
 Value.string
 x_119,
 Value.slice
 p_8
 n_14
 c_8,
 Value.string
 x_120]]
 w'
 fun
 (e :
 Ending)
 (w' :
 World) =>
 ∃
 (x
 :
 ByteArray),
 ∃
 (x_121
 :
 ByteArray),
 ∃
 (x_122
 :
 ByteArray),
 ∃
 (x_123
 :
 ByteArray),
 ∃
 (x_124
 :
 Int),
 ∃
 (x_125
 :
 Int),
 ∃
 (x_126
 :
 ByteArray),
 ∃
 (p_9
 :
 Option
 Addr),
 ∃
 (n_15
 :
 Nat),
 ∃
 (c_9
 :
 Nat),
 ∃
 (x_127
 :
 ByteArray),
 e =
 Ending.returned
 (Value.agg
 #[Value.string
 x,
 Value.string
 x_121,
 Value.string
 x_122,
 Value.string
 x_123,
 Value.int
 IntKind.i64
 x_124,
 Value.int
 IntKind.i64
 x_125,
 Value.string
 x_126,
 Value.slice
 p_9
 n_15
 c_9,
 Value.string
 x_127]) ∧
 S
 w' ∧
 CallsS
 Tryd.prog
 16
 #[Value.agg
 #[Value.string
 x_105,
 Value.string
 x_106,
 Value.string
 x_107,
 Value.string
 x_108,
 Value.int
 IntKind.i64
 x_109,
 Value.int
 IntKind.i64
 x_110,
 Value.string
 x_111,
 Value.slice
 p
 n
 c,
 Value.string
 x_112],
 Value.agg
 #[Value.string
 x,
 Value.string
 x_121,
 Value.string
 x_122,
 Value.string
 x_123,
 Value.int
 IntKind.i64
 x_124,
 Value.int
 IntKind.i64
 x_125,
 Value.string
 x_126,
 Value.slice
 p_9
 n_15
 c_9,
 Value.string
 x_127]]
 w'
 fun
 (e :
 Ending)
 (w' :
 World) =>
 ∃
 (x
 :
 Bool),
 e =
 Ending.returned
 (Value.bool
 x) ∧
 KeptL
 [n_2,
 n_1]
 W
 w' ∧
 R
 (Ending.returned
 (Value.bool
 (true &&
 x)))
 w')
 (S
 w' ∧
 KeptL
 [n_2,
 n_1]
 W
 w' ∧
 R
 (Ending.returned
 (Value.bool
 false))
 w'))
 (S
 w' ∧
 S
 w' ∧
 S
 w' ∧
 S
 w' ∧
 ∃
 (x
 :
 ByteArray),
 ∃
 (x
 :
 ByteArray),
 ∃
 (x
 :
 ByteArray),
 ∃
 (x
 :
 ByteArray),
 ∃
 (x
 :
 Int),
 ∃
 (x
 :
 Int),
 ∃
 (x
 :
 ByteArray),
 ∃
 (p
 :
 Option
 Addr),
 ∃
 (n
 :
 Nat),
 ∃
 (c
 :
 Nat),
 ∃
 (x
 :
 ByteArray),
 True ∧
 ∃
 (x
 :
 ByteArray),
 ∃
 (x
 :
 ByteArray),
 ∃
 (x
 :
 ByteArray),
 ∃
 (x
 :
 ByteArray),
 ∃
 (x
 :
 Int),
 ∃
 (x
 :
 Int),
 ∃
 (x
 :
 ByteArray),
 ∃
 (p
 :
 Option
 Addr),
 ∃
 (n
 :
 Nat),
 ∃
 (c
 :
 Nat),
 ∃
 (x
 :
 ByteArray),
 True ∧
 S
 w' ∧
 KeptL
 [n_2,
 n_1]
 W
 w' ∧
 R
 (Ending.returned
 (Value.bool
 false))
 w'))
 (S w' ∧
 S w' ∧
 S w' ∧
 ∃ (x :
 ByteArray),
 ∃ (x :
 ByteArray),
 ∃ (x :
 ByteArray),
 ∃ (x :
 ByteArray),
 ∃ (x :
 Int),
 ∃ (x :
 Int),
 ∃ (x :
 ByteArray),
 ∃ (p
 :
 Option
 Addr),
 ∃ (n
 :
 Nat),
 ∃
 (c
 :
 Nat),
 ∃
 (x
 :
 ByteArray),
 True ∧
 ∃
 (x
 :
 ByteArray),
 ∃
 (x
 :
 ByteArray),
 ∃
 (x
 :
 ByteArray),
 ∃
 (x
 :
 ByteArray),
 ∃
 (x
 :
 Int),
 ∃
 (x
 :
 Int),
 ∃
 (x
 :
 ByteArray),
 ∃
 (p
 :
 Option
 Addr),
 ∃
 (n
 :
 Nat),
 ∃
 (c
 :
 Nat),
 ∃
 (x
 :
 ByteArray),
 True ∧
 ∃
 (x
 :
 ByteArray),
 ∃
 (x
 :
 ByteArray),
 ∃
 (x
 :
 ByteArray),
 ∃
 (x
 :
 ByteArray),
 ∃
 (x
 :
 Int),
 ∃
 (x
 :
 Int),
 ∃
 (x
 :
 ByteArray),
 ∃
 (p
 :
 Option
 Addr),
 ∃
 (n
 :
 Nat),
 ∃
 (c
 :
 Nat),
 ∃
 (x
 :
 ByteArray),
 True ∧
 ∃
 (x
 :
 ByteArray),
 ∃
 (x
 :
 ByteArray),
 ∃
 (x
 :
 ByteArray),
 ∃
 (x
 :
 ByteArray),
 ∃
 (x
 :
 Int),
 ∃
 (x
 :
 Int),
 ∃
 (x
 :
 ByteArray),
 ∃
 (p
 :
 Option
 Addr),
 ∃
 (n
 :
 Nat),
 ∃
 (c
 :
 Nat),
 ∃
 (x
 :
 ByteArray),
 True ∧
 S
 w' ∧
 S
 w' ∧
 S
 w' ∧
 S
 w' ∧
 ∃
 (x
 :
 ByteArray),
 ∃
 (x
 :
 ByteArray),
 ∃
 (x
 :
 ByteArray),
 ∃
 (x
 :
 ByteArray),
 ∃
 (x
 :
 Int),
 ∃
 (x
 :
 Int),
 ∃
 (x
 :
 ByteArray),
 ∃
 (p
 :
 Option
 Addr),
 ∃
 (n
 :
 Nat),
 ∃
 (c
 :
 Nat),
 ∃
 (x
 :
 ByteArray),
 True ∧
 ∃
 (x
 :
 ByteArray),
 ∃
 (x
 :
 ByteArray),
 ∃
 (x
 :
 ByteArray),
 ∃
 (x
 :
 ByteArray),
 ∃
 (x
 :
 Int),
 ∃
 (x
 :
 Int),
 ∃
 (x
 :
 ByteArray),
 ∃
 (p
 :
 Option
 Addr),
 ∃
 (n
 :
 Nat),
 ∃
 (c
 :
 Nat),
 ∃
 (x
 :
 ByteArray),
 True ∧
 S
 w' ∧
 KeptL
 [n_2,
 n_1]
 W
 w' ∧
 R
 (Ending.returned
 (Value.bool
 false))
 w')) ∧
 ∀ (n_7 : Nat) (w1_1 : World),
 NewB w1
 (Obj.cells
 #[Value.string (ByteArray.mk #[]), Value.string (ByteArray.mk #[]),
 Value.string (ByteArray.mk #[]), Value.string (ByteArray.mk #[]),
 Value.int IntKind.i64 0, Value.int IntKind.i64 0,
 Value.string (ByteArray.mk #[]), Value.slice none 0 0,
 Value.string (ByteArray.mk #[])]
 29)
 n_7 w1_1 →
 S w1_1 ∧
 CallsS Tryd.prog 8
 #[Value.agg
 #[Value.string x_8, Value.string x_9, Value.string x_10,
 Value.string x_11, Value.int IntKind.i64 x_12,
 Value.int IntKind.i64 x_13, Value.string x_14,
 Value.slice p_1 n_4 c_1, Value.string x_15]]
 w1_1 fun (e : Ending) (w' : World) =>
 ∃ (x_23 : ByteArray),
 ∃ (x_24 : ByteArray),
 ∃ (x_25 : ByteArray),
 ∃ (x_26 : ByteArray),
 ∃ (x_27 : Int),
 ∃ (x_28 : Int),
 ∃ (x_29 : ByteArray),
 ∃ (p_2 : Option Addr),
 ∃ (n_8 : Nat),
 ∃ (c_2 : Nat),
 ∃ (x_30 : ByteArray),
 e =
 Ending.returned
 (Value.agg
 #[Value.string x_23, Value.string x_24,
 Value.string x_25, Value.string x_26,
 Value.int IntKind.i64 x_27,
 Value.int IntKind.i64 x_28, Value.string x_29,
 Value.slice p_2 n_8 c_2, Value.string x_30]) ∧
 WrL w' n_6 0 9 ∧
 ∀ (w1 : World),
 PutB w' n_6 0
 [Value.string x, Value.string x_16,
 Value.string x_17, Value.string x_18,
 Value.int IntKind.i64 x_19,
 Value.int IntKind.i64 x_20, Value.string x_21,
 Value.slice p n_5 c, Value.string x_22]
 w1 →
 WrL w1 n_7 0 9 ∧
 ∀ (w1_2 : World),
 PutB w1 n_7 0
 [Value.string x_23, Value.string x_24,
 Value.string x_25, Value.string x_26,
 Value.int IntKind.i64 x_27,
 Value.int IntKind.i64 x_28, Value.string x_29,
 Value.slice p_2 n_8 c_2, Value.string x_30]
 w1_2 →
 KeptL [n_2, n_1] W w1_2 ∧
 ∀ (W : World),
 Loc w.heap.size
 [Blk.mk n_2 26
 [Value.string fuy, Value.string fsy,
 Value.string tuy, Value.string tsy,
 Value.int IntKind.i64 ny,
 Value.int IntKind.i64 dy,
 Value.string sjy, Value.slice hpy hny hcy,
 Value.string bdy]
 0,
 Blk.mk n_1 26
 [Value.string fu, Value.string fs,
 Value.string tu, Value.string ts,
 Value.int IntKind.i64 n,
 Value.int IntKind.i64 d, Value.string sj,
 Value.slice hp hn hc, Value.string bd]
 0]
 w1_2 W →
 ∃ (S : World → Prop),
 S W ∧
 CallsS Tryd.prog 13 #[] W
 fun (e : Ending) (w' : World) =>
 ∃ (x : Bool),
 e = Ending.returned (Value.bool x) ∧
 S w' ∧
 ∃ (x_31 : ByteArray),
 ∃ (x_32 : ByteArray),
 ∃ (x_33 : ByteArray),
 ∃ (x_34 : ByteArray),
 ∃ (x_35 : Int),
 ∃ (x_36 : Int),
 ∃ (x_37 : ByteArray),
 ∃ (p : Option Addr),
 ∃ (n : Nat),
 ∃ (c : Nat),
 ∃ (x_38 : ByteArray),
 gimp x
 (∀ (w' : World),
 S w' →
 AtL w' n_6 0
 [Value.string x_31,
 Value.string x_32,
 Value.string x_33,
 Value.string x_34,
 Value.int IntKind.i64
 x_35,
 Value.int IntKind.i64
 x_36,
 Value.string x_37,
 Value.slice p n c,
 Value.string x_38]) ∧
 ∃ (x_39 : ByteArray),
 ∃ (x_40 : ByteArray),
 ∃ (x_41 : ByteArray),
 ∃ (x_42 : ByteArray),
 ∃ (x_43 : Int),
 ∃ (x_44 : Int),
 ∃ (x_45 : ByteArray),
 ∃ (p_3 :
 Option Addr),
 ∃ (n_9 : Nat),
 ∃ (c_3 : Nat),
 ∃ (x_46 :
 ByteArray),
 gimp x
 (∀
 (w' : World),
 S w' →
 AtL w' n_6 0
 [Value.string
 x_39,
 Value.string
 x_40,
 Value.string
 x_41,
 Value.string
 x_42,
 Value.int
 IntKind.i64
 x_43,
 Value.int
 IntKind.i64
 x_44,
 Value.string
 x_45,
 Value.slice
 p_3 n_9
 c_3,
 Value.string
 x_46]) ∧
 bsp x
 (CallsS
 Tryd.prog 14
 #[Value.agg
 #[Value.string
 x_31,
 Value.string
 x_32,
 Value.string
 x_33,
 Value.string
 x_34,
 Value.int
 IntKind.i64
 x_35,
 Value.int
 IntKind.i64
 x_36,
 Value.string
 x_37,
 Value.slice
 p n c,
 Value.string
 x_38]]
 w'
 fun
 (e : Ending)
 (w' :
 World) =>
 ∃ (x : Int),
 e =
 Ending.returned
 (Value.int
 IntKind.i64
 x) ∧
 S w' ∧
 CallsS
 Tryd.prog
 11
 #[Value.agg
 #[Value.string
 x_39,
 Value.string
 x_40,
 Value.string
 x_41,
 Value.string
 x_42,
 Value.int
 IntKind.i64
 x_43,
 Value.int
 IntKind.i64
 x_44,
 Value.string
 x_45,
 Value.slice
 p_3
 n_9
 c_3,
 Value.string
 x_46]]
 w'
 fun
 (e :
 Ending)
 (w' :
 World) =>
 ∃ (x_47 :
 ByteArray),
 ∃ (x_48 :
 ByteArray),
 ∃ (x_49
 :
 ByteArray),
 ∃ (x_50
 :
 ByteArray),
 ∃
 (x_51
 :
 Int),
 ∃
 (x_52
 :
 Int),
 ∃
 (x_53
 :
 ByteArray),
 ∃
 (p
 :
 Option
 Addr),
 ∃
 (n
 :
 Nat),
 ∃
 (c
 :
 Nat),
 ∃
 (x_54
 :
 ByteArray),
 e =
 Ending.returned
 (Value.agg
 #[Value.string
 x_47,
 Value.string
 x_48,
 Value.string
 x_49,
 Value.string
 x_50,
 Value.int
 IntKind.i64
 x_51,
 Value.int
 IntKind.i64
 x_52,
 Value.string
 x_53,
 Value.slice
 p
 n
 c,
 Value.string
 x_54]) ∧
 S
 w' ∧
 CallsS
 Tryd.prog
 15
 #[Value.agg
 #[Value.string
 x_47,
 Value.string
 x_48,
 Value.string
 x_49,
 Value.string
 x_50,
 Value.int
 IntKind.i64
 x_51,
 Value.int
 IntKind.i64
 x_52,
 Value.string
 x_53,
 Value.slice
 p
 n
 c,
 Value.string
 x_54]]
 w'
 fun
 (e :
 Ending)
 (w' :
 World) =>
 ∃
 (x_55
 :
 Int),
 e =
 Ending.returned
 (Value.int
 IntKind.i64
 x_55) ∧
 S
 w' ∧
 ∃
 (x_56
 :
 ByteArray),
 ∃
 (x_57
 :
 ByteArray),
 ∃
 (x_58
 :
 ByteArray),
 ∃
 (x_59
 :
 ByteArray),
 ∃
 (x_60
 :
 Int),
 ∃
 (x_61
 :
 Int),
 ∃
 (x_62
 :
 ByteArray),
 ∃
 (p
 :
 Option
 Addr),
 ∃
 (n
 :
 Nat),
 ∃
 (c
 :
 Nat),
 ∃
 (x_63
 :
 ByteArray),
 gimp
 (true &&
 x ==
 x_55)
 (∀
 (w' :
 World),
 S
 w' →
 AtL
 w'
 n_6
 0
 [Value.string
 x_56,
 Value.string
 x_57,
 Value.string
 x_58,
 Value.string
 x_59,
 Value.int
 IntKind.i64
 x_60,
 Value.int
 IntKind.i64
 x_61,
 Value.string
 x_62,
 Value.slice
 p
 n
 c,
 Value.string
 x_63]) ∧
 ∃
 (x_64
 :
 ByteArray),
 ∃
 (x_65
 :
 ByteArray),
 ∃
 (x_66
 :
 ByteArray),
 ∃
 (x_67
 :
 ByteArray),
 ∃
 (x_68
 :
 Int),
 ∃
 (x_69
 :
 Int),
 ∃
 (x_70
 :
 ByteArray),
 ∃
 (p_4
 :
 Option
 Addr),
 ∃
 (n_10
 :
 Nat),
 ∃
 (c_4
 :
 Nat),
 ∃
 (x_71
 :
 ByteArray),
 gimp
 (true &&
 x ==
 x_55)
 (∀
 (w' :
 World),
 S
 w' →
 AtL
 w'
 n_7
 0
 [Value.string
 x_64,
 Value.string
 x_65,
 Value.string
 x_66,
 Value.string
 x_67,
 Value.int
 IntKind.i64
 x_68,
 Value.int
 IntKind.i64
 x_69,
 Value.string
 x_70,
 Value.slice
 p_4
 n_10
 c_4,
 Value.string
 x_71]) ∧
 ∃
 (x_72
 :
 ByteArray),
 ∃
 (x_73
 :
 ByteArray),
 ∃
 (x_74
 :
 ByteArray),
 ∃
 (x_75
 :
 ByteArray),
 ∃
 (x_76
 :
 Int),
 ∃
 (x_77
 :
 Int),
 ∃
 (x_78
 :
 ByteArray),
 ∃
 (p_5
 :
 Option
 Addr),
 ∃
 (n_11
 :
 Nat),
 ∃
 (c_5
 :
 Nat),
 ∃
 (x_79
 :
 ByteArray),
 gimp
 (true &&
 x ==
 x_55)
 (∀
 (w' :
 World),
 S
 w' →
 AtL
 w'
 n_6
 0
 [Value.string
 x_72,
 Value.string
 x_73,
 Value.string
 x_74,
 Value.string
 x_75,
 Value.int
 IntKind.i64
 x_76,
 Value.int
 IntKind.i64
 x_77,
 Value.string
 x_78,
 Value.slice
 p_5
 n_11
 c_5,
 Value.string
 x_79]) ∧
 ∃
 (x_80
 :
 ByteArray),
 ∃
 (x_81
 :
 ByteArray),
 ∃
 (x_82
 :
 ByteArray),
 ∃
 (x_83
 :
 ByteArray),
 ∃
 (x_84
 :
 Int),
 ∃
 (x_85
 :
 Int),
 ∃
 (x_86
 :
 ByteArray),
 ∃
 (p_6
 :
 Option
 Addr),
 ∃
 (n_12
 :
 Nat),
 ∃
 (c_6
 :
 Nat),
 ∃
 (x_87
 :
 ByteArray),
 gimp
 (true &&
 x ==
 x_55)
 (∀
 (w' :
 World),
 S
 w' →
 AtL
 w'
 n_7
 0
 [Value.string
 x_80,
 Value.string
 x_81,
 Value.string
 x_82,
 Value.string
 x_83,
 Value.int
 IntKind.i64
 x_84,
 Value.int
 IntKind.i64
 x_85,
 Value.string
 x_86,
 Value.slice
 p_6
 n_12
 c_6,
 Value.string
 x_87]) ∧
 bsp
 (true &&
 x ==
 x_55)
 (CallsS
 Tryd.prog
 16
 #[Value.agg
 #[Value.string
 x_56,
 Value.string
 x_57,
 Value.string
 x_58,
 Value.string
 x_59,
 Value.int
 IntKind.i64
 x_60,
 Value.int
 IntKind.i64
 x_61,
 Value.string
 x_62,
 Value.slice
 p
 n
 c,
 Value.string
 x_63],
 Value.agg
 #[Value.string
 x_64,
 Value.string
 x_65,
 Value.string
 x_66,
 Value.string
 x_67,
 Value.int
 IntKind.i64
 x_68,
 Value.int
 IntKind.i64
 x_69,
 Value.string
 x_70,
 Value.slice
 p_4
 n_10
 c_4,
 Value.string
 x_71]]
 w'
 fun
 (e :
 Ending)
 (w' :
 World) =>
 ∃
 (x
 :
 Bool),
 e =
 Ending.returned
 (Value.bool
 x) ∧
 S
 w' ∧
 CallsS
 Tryd.prog
 11
 #[Value.agg
 #[Value.string
 x_72,
 Value.string
 x_73,
 Value.string
 x_74,
 Value.string
 x_75,
 Value.int
 IntKind.i64
 x_76,
 Value.int
 IntKind.i64
 x_77,
 Value.string
 x_78,
 Value.slice
 p_5
 n_11
 c_5,
 Value.string
 x_79]]
 w'
 fun
 (e :
 Ending)
 (w' :
 World) =>
 ∃
 (x_88
 :
 ByteArray),
 ∃
 (x_89
 :
 ByteArray),
 ∃
 (x_90
 :
 ByteArray),
 ∃
 (x_91
 :
 ByteArray),
 ∃
 (x_92
 :
 Int),
 ∃
 (x_93
 :
 Int),
 ∃
 (x_94
 :
 ByteArray),
 ∃
 (p
 :
 Option
 Addr),
 ∃
 (n
 :
 Nat),
 ∃
 (c
 :
 Nat),
 ∃
 (x_95
 :
 ByteArray),
 e =
 Ending.returned
 (Value.agg
 #[Value.string
 x_88,
 Value.string
 x_89,
 Value.string
 x_90,
 Value.string
 x_91,
 Value.int
 IntKind.i64
 x_92,
 Value.int
 IntKind.i64
 x_93,
 Value.string
 x_94,
 Value.slice
 p
 n
 c,
 Value.string
 x_95]) ∧
 S
 w' ∧
 CallsS
 Tryd.prog
 11
 #[Value.agg
 #[Value.string
 x_80,
 Value.string
 x_81,
 Value.string
 x_82,
 Value.string
 x_83,
 Value.int
 IntKind.i64
 x_84,
 Value.int
 IntKind.i64
 x_85,
 Value.string
 x_86,
 Value.slice
 p_6
 n_12
 c_6,
 Value.string
 x_87]]
 w'
 fun
 (e :
 Ending)
 (w' :
 World) =>
 ∃
 (x_96
 :
 ByteArray),
 ∃
 (x_97
 :
 ByteArray),
 ∃
 (x_98
 :
 ByteArray),
 ∃
 (x_99
 :
 ByteArray),
 ∃
 (x_100
 :
 Int),
 ∃
 (x_101
 :
 Int),
 ∃
 (x_102
 :
 ByteArray),
 ∃
 (p_7
 :
 Option
 Addr),
 ∃
 (n_13
 :
 Nat),
 ∃
 (c_7
 :
 Nat),
 ∃
 (x_103
 :
 ByteArray),
 e =
 Ending.returned
 (Value.agg
 #[Value.string
 x_96,
 Value.string
 x_97,
 Value.string
 x_98,
 Value.string
 x_99,
 Value.int
 IntKind.i64
 x_100,
 Value.int
 IntKind.i64
 x_101,
 Value.string
 x_102,
 Value.slice
 p_7
 n_13
 c_7,
 Value.string
 x_103]) ∧
 S
 w' ∧
 CallsS
 Tryd.prog
 12
 #[Value.agg
 #[Value.string
 x_88,
 Value.string
 x_89,
 Value.string
 x_90,
 Value.string
 x_91,
 Value.int
 IntKind.i64
 x_92,
 Value.int
 IntKind.i64
 x_93,
 Value.string
 x_94,
 Value.slice
 p
 n
 c,
 Value.string
 x_95],
 Value.agg
 #[Value.string
 x_96,
 Value.string
 x_97,
 Value.string
 x_98,
 Value.string
 x_99,
 Value.int
 IntKind.i64
 x_100,
 Value.int
 IntKind.i64
 x_101,
 Value.string
 x_102,
 Value.slice
 p_7
 n_13
 c_7,
 Value.string
 x_103]]
 w'
 fun
 (e :
 Ending)
 (w' :
 World) =>
 ∃
 (x_104
 :
 Bool),
 e =
 Ending.returned
 (Value.bool
 x_104) ∧
 S
 w' ∧
 ∃
 (x_105
 :
 ByteArray),
 ∃
 (x_106
 :
 ByteArray),
 ∃
 (x_107
 :
 ByteArray),
 ∃
 (x_108
 :
 ByteArray),
 ∃
 (x_109
 :
 Int),
 ∃
 (x_110
 :
 Int),
 ∃
 (x_111
 :
 ByteArray),
 ∃
 (p
 :
 Option
 Addr),
 ∃
 (n
 :
 Nat),
 ∃
 (c
 :
 Nat),
 ∃
 (x_112
 :
 ByteArray),
 gimp
 (true &&
 x ==
 x_104)
 (∀
 (w' :
 World),
 S
 w' →
 AtL
 w'
 n_6
 0
 [Value.string
 x_105,
 Value.string
 x_106,
 Value.string
 x_107,
 Value.string
 x_108,
 Value.int
 IntKind.i64
 x_109,
 Value.int
 IntKind.i64
 x_110,
 Value.string
 x_111,
 Value.slice
 p
 n
 c,
 Value.string
 x_112]) ∧
 ∃
 (x_113
 :
 ByteArray),
 ∃
 (x_114
 :
 ByteArray),
 ∃
 (x_115
 :
 ByteArray),
 ∃
 (x_116
 :
 ByteArray),
 ∃
 (x_117
 :
 Int),
 ∃
 (x_118
 :
 Int),
 ∃
 (x_119
 :
 ByteArray),
 ∃
 (p_8
 :
 Option
 Addr),
 ∃
 (n_14
 :
 Nat),
 ∃
 (c_8
 :
 Nat),
 ∃
 (x_120
 :
 ByteArray),
 gimp
 (true &&
 x ==
 x_104)
 (∀
 (w' :
 World),
 S
 w' →
 AtL
 w'
 n_1
 0
 [Value.string
 x_113,
 Value.string
 x_114,
 Value.string
 x_115,
 Value.string
 x_116,
 Value.int
 IntKind.i64
 x_117,
 Value.int
 IntKind.i64
 x_118,
 Value.string
 x_119,
 Value.slice
 p_8
 n_14
 c_8,
 Value.string
 x_120]) ∧
 bsp
 (true &&
 x ==
 x_104)
 (CallsS
 Tryd.prog
 8
 #[Value.agg
 #[Value.string
 x_113,
 Value.string
 x_114,
 Value.string
 x_115,
 Value.string
 x_116,
 Value.int
 IntKind.i64
 x_117,
 Value.int
 IntKind.i64
 x_118,
 Value.string
 x_119,
 Value.slice
 p_8
 n_14
 c_8,
 Value.string
 x_120]]
 w'
 fun
 (e :
 Ending)
 (w' :
 World) =>
 ∃
 (x
 :
 ByteArray),
 ∃
 (x_121
 :
 ByteArray),
 ∃
 (x_122
 :
 ByteArray),
 ∃
 (x_123
 :
 ByteArray),
 ∃
 (x_124
 :
 Int),
 ∃
 (x_125
 :
 Int),
 ∃
 (x_126
 :
 ByteArray),
 ∃
 (p_9
 :
 Option
 Addr),
 ∃
 (n_15
 :
 Nat),
 ∃
 (c_9
 :
 Nat),
 ∃
 (x_127
 :
 ByteArray),
 e =
 Ending.returned
 (Value.agg
 #[Value.string
 x,
 Value.string
 x_121,
 Value.string
 x_122,
 Value.string
 x_123,
 Value.int
 IntKind.i64
 x_124,
 Value.int
 IntKind.i64
 x_125,
 Value.string
 x_126,
 Value.slice
 p_9
 n_15
 c_9,
 Value.string
 x_127]) ∧
 S
 w' ∧
 CallsS
 Tryd.prog
 16
 #[Value.agg
 #[Value.string
 x_105,
 Value.string
 x_106,
 Value.string
 x_107,
 Value.string
 x_108,
 Value.int
 IntKind.i64
 x_109,
 Value.int
 IntKind.i64
 x_110,
 Value.string
 x_111,
 Value.slice
 p
 n
 c,
 Value.string
 x_112],
 Value.agg
 #[Value.string
 x,
 Value.string
 x_121,
 Value.string
 x_122,
 Value.string
 x_123,
 Value.int
 IntKind.i64
 x_124,
 Value.int
 IntKind.i64
 x_125,
 Value.string
 x_126,
 Value.slice
 p_9
 n_15
 c_9,
 Value.string
 x_127]]
 w'
 fun
 (e :
 Ending)
 (w' :
 World) =>
 ∃
 (x
 :
 Bool),
 e =
 Ending.returned
 (Value.bool
 x) ∧
 KeptL
 [n_2,
 n_1]
 W
 w' ∧
 R
 (Ending.returned
 (Value.bool
 (true &&
 x)))
 w')
 (S
 w' ∧
 KeptL
 [n_2,
 n_1]
 W
 w' ∧
 R
 (Ending.returned
 (Value.bool
 false))
 w'))
 (S
 w' ∧
 S
 w' ∧
 S
 w' ∧
 S
 w' ∧
 ∃
 (x
 :
 ByteArray),
 ∃
 (x
 :
 ByteArray),
 ∃
 (x
 :
 ByteArray),
 ∃
 (x
 :
 ByteArray),
 ∃
 (x
 :
 Int),
 ∃
 (x
 :
 Int),
 ∃
 (x
 :
 ByteArray),
 ∃
 (p
 :
 Option
 Addr),
 ∃
 (n
 :
 Nat),
 ∃
 (c
 :
 Nat),
 ∃
 (x
 :
 ByteArray),
 True ∧
 ∃
 (x
 :
 ByteArray),
 ∃
 (x
 :
 ByteArray),
 ∃
 (x
 :
 ByteArray),
 ∃
 (x
 :
 ByteArray),
 ∃
 (x
 :
 Int),
 ∃
 (x
 :
 Int),
 ∃
 (x
 :
 ByteArray),
 ∃
 (p
 :
 Option
 Addr),
 ∃
 (n
 :
 Nat),
 ∃
 (c
 :
 Nat),
 ∃
 (x
 :
 ByteArray),
 True ∧
 S
 w' ∧
 KeptL
 [n_2,
 n_1]
 W
 w' ∧
 R
 (Ending.returned
 (Value.bool
 false))
 w'))
 (S w' ∧
 S w' ∧
 S w' ∧
 ∃ (x :
 ByteArray),
 ∃ (x :
 ByteArray),
 ∃ (x :
 ByteArray),
 ∃ (x :
 ByteArray),
 ∃ (x :
 Int),
 ∃ (x :
 Int),
 ∃ (x :
 ByteArray),
 ∃ (p
 :
 Option
 Addr),
 ∃ (n
 :
 Nat),
 ∃
 (c
 :
 Nat),
 ∃
 (x
 :
 ByteArray),
 True ∧
 ∃
 (x
 :
 ByteArray),
 ∃
 (x
 :
 ByteArray),
 ∃
 (x
 :
 ByteArray),
 ∃
 (x
 :
 ByteArray),
 ∃
 (x
 :
 Int),
 ∃
 (x
 :
 Int),
 ∃
 (x
 :
 ByteArray),
 ∃
 (p
 :
 Option
 Addr),
 ∃
 (n
 :
 Nat),
 ∃
 (c
 :
 Nat),
 ∃
 (x
 :
 ByteArray),
 True ∧
 ∃
 (x
 :
 ByteArray),
 ∃
 (x
 :
 ByteArray),
 ∃
 (x
 :
 ByteArray),
 ∃
 (x
 :
 ByteArray),
 ∃
 (x
 :
 Int),
 ∃
 (x
 :
 Int),
 ∃
 (x
 :
 ByteArray),
 ∃
 (p
 :
 Option
 Addr),
 ∃
 (n
 :
 Nat),
 ∃
 (c
 :
 Nat),
 ∃
 (x
 :
 ByteArray),
 True ∧
 ∃
 (x
 :
 ByteArray),
 ∃
 (x
 :
 ByteArray),
 ∃
 (x
 :
 ByteArray),
 ∃
 (x
 :
 ByteArray),
 ∃
 (x
 :
 Int),
 ∃
 (x
 :
 Int),
 ∃
 (x
 :
 ByteArray),
 ∃
 (p
 :
 Option
 Addr),
 ∃
 (n
 :
 Nat),
 ∃
 (c
 :
 Nat),
 ∃
 (x
 :
 ByteArray),
 True ∧
 S
 w' ∧
 S
 w' ∧
 S
 w' ∧
 S
 w' ∧
 ∃
 (x
 :
 ByteArray),
 ∃
 (x
 :
 ByteArray),
 ∃
 (x
 :
 ByteArray),
 ∃
 (x
 :
 ByteArray),
 ∃
 (x
 :
 Int),
 ∃
 (x
 :
 Int),
 ∃
 (x
 :
 ByteArray),
 ∃
 (p
 :
 Option
 Addr),
 ∃
 (n
 :
 Nat),
 ∃
 (c
 :
 Nat),
 ∃
 (x
 :
 ByteArray),
 True ∧
 ∃
 (x
 :
 ByteArray),
 ∃
 (x
 :
 ByteArray),
 ∃
 (x
 :
 ByteArray),
 ∃
 (x
 :
 ByteArray),
 ∃
 (x
 :
 Int),
 ∃
 (x
 :
 Int),
 ∃
 (x
 :
 ByteArray),
 ∃
 (p
 :
 Option
 Addr),
 ∃
 (n
 :
 Nat),
 ∃
 (c
 :
 Nat),
 ∃
 (x
 :
 ByteArray),
 True ∧
 S
 w' ∧
 KeptL
 [n_2,
 n_1]
 W
 w' ∧
 R
 (Ending.returned
 (Value.bool
 false))
 w')) ∧
 ∀ (n_6 : Nat) (w1 : World),
 NewB w'
 (Obj.cells
 #[Value.string (ByteArray.mk #[]), Value.string (ByteArray.mk #[]),
 Value.string (ByteArray.mk #[]), Value.string (ByteArray.mk #[]),
 Value.int IntKind.i64 0, Value.int IntKind.i64 0,
 Value.string (ByteArray.mk #[]), Value.slice none 0 0,
 Value.string (ByteArray.mk #[])]
 29)
 n_6 w1 →
 S w1 ∧
 (CallsS Tryd.prog 8
 #[Value.agg
 #[Value.string x_8, Value.string x_9, Value.string x_10,
 Value.string x_11, Value.int IntKind.i64 x_12,
 Value.int IntKind.i64 x_13, Value.string x_14,
 Value.slice p_1 n_4 c_1, Value.string x_15]]
 w1 fun (e : Ending) (w' : World) =>
 ∃ (x_23 : ByteArray),
 ∃ (x_24 : ByteArray),
 ∃ (x_25 : ByteArray),
 ∃ (x_26 : ByteArray),
 ∃ (x_27 : Int),
 ∃ (x_28 : Int),
 ∃ (x_29 : ByteArray),
 ∃ (p_2 : Option Addr),
 ∃ (n_7 : Nat),
 ∃ (c_2 : Nat),
 ∃ (x_30 : ByteArray),
 e =
 Ending.returned
 (Value.agg
 #[Value.string x_23, Value.string x_24,
 Value.string x_25, Value.string x_26,
 Value.int IntKind.i64 x_27,
 Value.int IntKind.i64 x_28, Value.string x_29,
 Value.slice p_2 n_7 c_2, Value.string x_30]) ∧
 ∀ (n_8 : Nat) (w1 : World),
 NewB w'
 (Obj.cells
 #[Value.string (ByteArray.mk #[]),
 Value.string (ByteArray.mk #[]),
 Value.string (ByteArray.mk #[]),
 Value.string (ByteArray.mk #[]),
 Value.int IntKind.i64 0, Value.int IntKind.i64 0,
 Value.string (ByteArray.mk #[]),
 Value.slice none 0 0,
 Value.string (ByteArray.mk #[])]
 29)
 n_8 w1 →
 S w1 ∧
 WrL w1 n_8 0 9 ∧
 ∀ (w1_1 : World),
 PutB w1 n_8 0
 [Value.string x, Value.string x_16,
 Value.string x_17, Value.string x_18,
 Value.int IntKind.i64 x_19,
 Value.int IntKind.i64 x_20, Value.string x_21,
 Value.slice p n_5 c, Value.string x_22]
 w1_1 →
 WrL w1_1 n_6 0 9 ∧
 ∀ (w1 : World),
 PutB w1_1 n_6 0
 [Value.string x_23, Value.string x_24,
 Value.string x_25, Value.string x_26,
 Value.int IntKind.i64 x_27,
 Value.int IntKind.i64 x_28, Value.string x_29,
 Value.slice p_2 n_7 c_2, Value.string x_30]
 w1 →
 KeptL [n_2, n_1] W w1 ∧
 ∀ (W : World),
 Loc w.heap.size
 [Blk.mk n_2 26
 [Value.string fuy, Value.string fsy,
 Value.string tuy, Value.string tsy,
 Value.int IntKind.i64 ny,
 Value.int IntKind.i64 dy,
 Value.string sjy, Value.slice hpy hny hcy,
 Value.string bdy]
 0,
 Blk.mk n_1 26
 [Value.string fu, Value.string fs,
 Value.string tu, Value.string ts,
 Value.int IntKind.i64 n,
 Value.int IntKind.i64 d, Value.string sj,
 Value.slice hp hn hc, Value.string bd]
 0]
 w1 W →
 ∃ (S : World → Prop),
 S W ∧
 CallsS Tryd.prog 13 #[] W
 fun (e : Ending) (w' : World) =>
 ∃ (x : Bool),
 e = Ending.returned (Value.bool x) ∧
 S w' ∧
 ∃ (x_31 : ByteArray),
 ∃ (x_32 : ByteArray),
 ∃ (x_33 : ByteArray),
 ∃ (x_34 : ByteArray),
 ∃ (x_35 : Int),
 ∃ (x_36 : Int),
 ∃ (x_37 : ByteArray),
 ∃ (p : Option Addr),
 ∃ (n : Nat),
 ∃ (c : Nat),
 ∃ (x_38 : ByteArray),
 gimp x
 (∀ (w' : World),
 S w' →
 AtL w' n_8 0
 [Value.string x_31,
 Value.string x_32,
 Value.string x_33,
 Value.string x_34,
 Value.int IntKind.i64
 x_35,
 Value.int IntKind.i64
 x_36,
 Value.string x_37,
 Value.slice p n c,
 Value.string x_38]) ∧
 ∃ (x_39 : ByteArray),
 ∃ (x_40 : ByteArray),
 ∃ (x_41 : ByteArray),
 ∃ (x_42 : ByteArray),
 ∃ (x_43 : Int),
 ∃ (x_44 : Int),
 ∃ (x_45 : ByteArray),
 ∃ (p_3 :
 Option Addr),
 ∃ (n_9 : Nat),
 ∃ (c_3 : Nat),
 ∃ (x_46 :
 ByteArray),
 gimp x
 (∀
 (w' : World),
 S w' →
 AtL w' n_8 0
 [Value.string
 x_39,
 Value.string
 x_40,
 Value.string
 x_41,
 Value.string
 x_42,
 Value.int
 IntKind.i64
 x_43,
 Value.int
 IntKind.i64
 x_44,
 Value.string
 x_45,
 Value.slice
 p_3 n_9
 c_3,
 Value.string
 x_46]) ∧
 bsp x
 (CallsS
 Tryd.prog 14
 #[Value.agg
 #[Value.string
 x_31,
 Value.string
 x_32,
 Value.string
 x_33,
 Value.string
 x_34,
 Value.int
 IntKind.i64
 x_35,
 Value.int
 IntKind.i64
 x_36,
 Value.string
 x_37,
 Value.slice
 p n c,
 Value.string
 x_38]]
 w'
 fun
 (e : Ending)
 (w' :
 World) =>
 ∃ (x : Int),
 e =
 Ending.returned
 (Value.int
 IntKind.i64
 x) ∧
 S w' ∧
 CallsS
 Tryd.prog
 11
 #[Value.agg
 #[Value.string
 x_39,
 Value.string
 x_40,
 Value.string
 x_41,
 Value.string
 x_42,
 Value.int
 IntKind.i64
 x_43,
 Value.int
 IntKind.i64
 x_44,
 Value.string
 x_45,
 Value.slice
 p_3
 n_9
 c_3,
 Value.string
 x_46]]
 w'
 fun
 (e :
 Ending)
 (w' :
 World) =>
 ∃ (x_47 :
 ByteArray),
 ∃ (x_48 :
 ByteArray),
 ∃ (x_49
 :
 ByteArray),
 ∃ (x_50
 :
 ByteArray),
 ∃
 (x_51
 :
 Int),
 ∃
 (x_52
 :
 Int),
 ∃
 (x_53
 :
 ByteArray),
 ∃
 (p
 :
 Option
 Addr),
 ∃
 (n
 :
 Nat),
 ∃
 (c
 :
 Nat),
 ∃
 (x_54
 :
 ByteArray),
 e =
 Ending.returned
 (Value.agg
 #[Value.string
 x_47,
 Value.string
 x_48,
 Value.string
 x_49,
 Value.string
 x_50,
 Value.int
 IntKind.i64
 x_51,
 Value.int
 IntKind.i64
 x_52,
 Value.string
 x_53,
 Value.slice
 p
 n
 c,
 Value.string
 x_54]) ∧
 S
 w' ∧
 CallsS
 Tryd.prog
 15
 #[Value.agg
 #[Value.string
 x_47,
 Value.string
 x_48,
 Value.string
 x_49,
 Value.string
 x_50,
 Value.int
 IntKind.i64
 x_51,
 Value.int
 IntKind.i64
 x_52,
 Value.string
 x_53,
 Value.slice
 p
 n
 c,
 Value.string
 x_54]]
 w'
 fun
 (e :
 Ending)
 (w' :
 World) =>
 ∃
 (x_55
 :
 Int),
 e =
 Ending.returned
 (Value.int
 IntKind.i64
 x_55) ∧
 S
 w' ∧
 ∃
 (x_56
 :
 ByteArray),
 ∃
 (x_57
 :
 ByteArray),
 ∃
 (x_58
 :
 ByteArray),
 ∃
 (x_59
 :
 ByteArray),
 ∃
 (x_60
 :
 Int),
 ∃
 (x_61
 :
 Int),
 ∃
 (x_62
 :
 ByteArray),
 ∃
 (p
 :
 Option
 Addr),
 ∃
 (n
 :
 Nat),
 ∃
 (c
 :
 Nat),
 ∃
 (x_63
 :
 ByteArray),
 gimp
 (true &&
 x ==
 x_55)
 (∀
 (w' :
 World),
 S
 w' →
 AtL
 w'
 n_8
 0
 [Value.string
 x_56,
 Value.string
 x_57,
 Value.string
 x_58,
 Value.string
 x_59,
 Value.int
 IntKind.i64
 x_60,
 Value.int
 IntKind.i64
 x_61,
 Value.string
 x_62,
 Value.slice
 p
 n
 c,
 Value.string
 x_63]) ∧
 ∃
 (x_64
 :
 ByteArray),
 ∃
 (x_65
 :
 ByteArray),
 ∃
 (x_66
 :
 ByteArray),
 ∃
 (x_67
 :
 ByteArray),
 ∃
 (x_68
 :
 Int),
 ∃
 (x_69
 :
 Int),
 ∃
 (x_70
 :
 ByteArray),
 ∃
 (p_4
 :
 Option
 Addr),
 ∃
 (n_10
 :
 Nat),
 ∃
 (c_4
 :
 Nat),
 ∃
 (x_71
 :
 ByteArray),
 gimp
 (true &&
 x ==
 x_55)
 (∀
 (w' :
 World),
 S
 w' →
 AtL
 w'
 n_6
 0
 [Value.string
 x_64,
 Value.string
 x_65,
 Value.string
 x_66,
 Value.string
 x_67,
 Value.int
 IntKind.i64
 x_68,
 Value.int
 IntKind.i64
 x_69,
 Value.string
 x_70,
 Value.slice
 p_4
 n_10
 c_4,
 Value.string
 x_71]) ∧
 ∃
 (x_72
 :
 ByteArray),
 ∃
 (x_73
 :
 ByteArray),
 ∃
 (x_74
 :
 ByteArray),
 ∃
 (x_75
 :
 ByteArray),
 ∃
 (x_76
 :
 Int),
 ∃
 (x_77
 :
 Int),
 ∃
 (x_78
 :
 ByteArray),
 ∃
 (p_5
 :
 Option
 Addr),
 ∃
 (n_11
 :
 Nat),
 ∃
 (c_5
 :
 Nat),
 ∃
 (x_79
 :
 ByteArray),
 gimp
 (true &&
 x ==
 x_55)
 (∀
 (w' :
 World),
 S
 w' →
 AtL
 w'
 n_8
 0
 [Value.string
 x_72,
 Value.string
 x_73,
 Value.string
 x_74,
 Value.string
 x_75,
 Value.int
 IntKind.i64
 x_76,
 Value.int
 IntKind.i64
 x_77,
 Value.string
 x_78,
 Value.slice
 p_5
 n_11
 c_5,
 Value.string
 x_79]) ∧
 ∃
 (x_80
 :
 ByteArray),
 ∃
 (x_81
 :
 ByteArray),
 ∃
 (x_82
 :
 ByteArray),
 ∃
 (x_83
 :
 ByteArray),
 ∃
 (x_84
 :
 Int),
 ∃
 (x_85
 :
 Int),
 ∃
 (x_86
 :
 ByteArray),
 ∃
 (p_6
 :
 Option
 Addr),
 ∃
 (n_12
 :
 Nat),
 ∃
 (c_6
 :
 Nat),
 ∃
 (x_87
 :
 ByteArray),
 gimp
 (true &&
 x ==
 x_55)
 (∀
 (w' :
 World),
 S
 w' →
 AtL
 w'
 n_6
 0
 [Value.string
 x_80,
 Value.string
 x_81,
 Value.string
 x_82,
 Value.string
 x_83,
 Value.int
 IntKind.i64
 x_84,
 Value.int
 IntKind.i64
 x_85,
 Value.string
 x_86,
 Value.slice
 p_6
 n_12
 c_6,
 Value.string
 x_87]) ∧
 bsp
 (true &&
 x ==
 x_55)
 (CallsS
 Tryd.prog
 16
 #[Value.agg
 #[Value.string
 x_56,
 Value.string
 x_57,
 Value.string
 x_58,
 Value.string
 x_59,
 Value.int
 IntKind.i64
 x_60,
 Value.int
 IntKind.i64
 x_61,
 Value.string
 x_62,
 Value.slice
 p
 n
 c,
 Value.string
 x_63],
 Value.agg
 #[Value.string
 x_64,
 Value.string
 x_65,
 Value.string
 x_66,
 Value.string
 x_67,
 Value.int
 IntKind.i64
 x_68,
 Value.int
 IntKind.i64
 x_69,
 Value.string
 x_70,
 Value.slice
 p_4
 n_10
 c_4,
 Value.string
 x_71]]
 w'
 fun
 (e :
 Ending)
 (w' :
 World) =>
 ∃
 (x
 :
 Bool),
 e =
 Ending.returned
 (Value.bool
 x) ∧
 S
 w' ∧
 CallsS
 Tryd.prog
 11
 #[Value.agg
 #[Value.string
 x_72,
 Value.string
 x_73,
 Value.string
 x_74,
 Value.string
 x_75,
 Value.int
 IntKind.i64
 x_76,
 Value.int
 IntKind.i64
 x_77,
 Value.string
 x_78,
 Value.slice
 p_5
 n_11
 c_5,
 Value.string
 x_79]]
 w'
 fun
 (e :
 Ending)
 (w' :
 World) =>
 ∃
 (x_88
 :
 ByteArray),
 ∃
 (x_89
 :
 ByteArray),
 ∃
 (x_90
 :
 ByteArray),
 ∃
 (x_91
 :
 ByteArray),
 ∃
 (x_92
 :
 Int),
 ∃
 (x_93
 :
 Int),
 ∃
 (x_94
 :
 ByteArray),
 ∃
 (p
 :
 Option
 Addr),
 ∃
 (n
 :
 Nat),
 ∃
 (c
 :
 Nat),
 ∃
 (x_95
 :
 ByteArray),
 e =
 Ending.returned
 (Value.agg
 #[Value.string
 x_88,
 Value.string
 x_89,
 Value.string
 x_90,
 Value.string
 x_91,
 Value.int
 IntKind.i64
 x_92,
 Value.int
 IntKind.i64
 x_93,
 Value.string
 x_94,
 Value.slice
 p
 n
 c,
 Value.string
 x_95]) ∧
 S
 w' ∧
 CallsS
 Tryd.prog
 11
 #[Value.agg
 #[Value.string
 x_80,
 Value.string
 x_81,
 Value.string
 x_82,
 Value.string
 x_83,
 Value.int
 IntKind.i64
 x_84,
 Value.int
 IntKind.i64
 x_85,
 Value.string
 x_86,
 Value.slice
 p_6
 n_12
 c_6,
 Value.string
 x_87]]
 w'
 fun
 (e :
 Ending)
 (w' :
 World) =>
 ∃
 (x_96
 :
 ByteArray),
 ∃
 (x_97
 :
 ByteArray),
 ∃
 (x_98
 :
 ByteArray),
 ∃
 (x_99
 :
 ByteArray),
 ∃
 (x_100
 :
 Int),
 ∃
 (x_101
 :
 Int),
 ∃
 (x_102
 :
 ByteArray),
 ∃
 (p_7
 :
 Option
 Addr),
 ∃
 (n_13
 :
 Nat),
 ∃
 (c_7
 :
 Nat),
 ∃
 (x_103
 :
 ByteArray),
 e =
 Ending.returned
 (Value.agg
 #[Value.string
 x_96,
 Value.string
 x_97,
 Value.string
 x_98,
 Value.string
 x_99,
 Value.int
 IntKind.i64
 x_100,
 Value.int
 IntKind.i64
 x_101,
 Value.string
 x_102,
 Value.slice
 p_7
 n_13
 c_7,
 Value.string
 x_103]) ∧
 S
 w' ∧
 CallsS
 Tryd.prog
 12
 #[Value.agg
 #[Value.string
 x_88,
 Value.string
 x_89,
 Value.string
 x_90,
 Value.string
 x_91,
 Value.int
 IntKind.i64
 x_92,
 Value.int
 IntKind.i64
 x_93,
 Value.string
 x_94,
 Value.slice
 p
 n
 c,
 Value.string
 x_95],
 Value.agg
 #[Value.string
 x_96,
 Value.string
 x_97,
 Value.string
 x_98,
 Value.string
 x_99,
 Value.int
 IntKind.i64
 x_100,
 Value.int
 IntKind.i64
 x_101,
 Value.string
 x_102,
 Value.slice
 p_7
 n_13
 c_7,
 Value.string
 x_103]]
 w'
 fun
 (e :
 Ending)
 (w' :
 World) =>
 ∃
 (x_104
 :
 Bool),
 e =
 Ending.returned
 (Value.bool
 x_104) ∧
 S
 w' ∧
 ∃
 (x_105
 :
 ByteArray),
 ∃
 (x_106
 :
 ByteArray),
 ∃
 (x_107
 :
 ByteArray),
 ∃
 (x_108
 :
 ByteArray),
 ∃
 (x_109
 :
 Int),
 ∃
 (x_110
 :
 Int),
 ∃
 (x_111
 :
 ByteArray),
 ∃
 (p
 :
 Option
 Addr),
 ∃
 (n
 :
 Nat),
 ∃
 (c
 :
 Nat),
 ∃
 (x_112
 :
 ByteArray),
 gimp
 (true &&
 x ==
 x_104)
 (∀
 (w' :
 World),
 S
 w' →
 AtL
 w'
 n_8
 0
 [Value.string
 x_105,
 Value.string
 x_106,
 Value.string
 x_107,
 Value.string
 x_108,
 Value.int
 IntKind.i64
 x_109,
 Value.int
 IntKind.i64
 x_110,
 Value.string
 x_111,
 Value.slice
 p
 n
 c,
 Value.string
 x_112]) ∧
 ∃
 (x_113
 :
 ByteArray),
 ∃
 (x_114
 :
 ByteArray),
 ∃
 (x_115
 :
 ByteArray),
 ∃
 (x_116
 :
 ByteArray),
 ∃
 (x_117
 :
 Int),
 ∃
 (x_118
 :
 Int),
 ∃
 (x_119
 :
 ByteArray),
 ∃
 (p_8
 :
 Option
 Addr),
 ∃
 (n_14
 :
 Nat),
 ∃
 (c_8
 :
 Nat),
 ∃
 (x_120
 :
 ByteArray),
 gimp
 (true &&
 x ==
 x_104)
 (∀
 (w' :
 World),
 S
 w' →
 AtL
 w'
 n_1
 0
 [Value.string
 x_113,
 Value.string
 x_114,
 Value.string
 x_115,
 Value.string
 x_116,
 Value.int
 IntKind.i64
 x_117,
 Value.int
 IntKind.i64
 x_118,
 Value.string
 x_119,
 Value.slice
 p_8
 n_14
 c_8,
 Value.string
 x_120]) ∧
 bsp
 (true &&
 x ==
 x_104)
 (CallsS
 Tryd.prog
 8
 #[Value.agg
 #[Value.string
 x_113,
 Value.string
 x_114,
 Value.string
 x_115,
 Value.string
 x_116,
 Value.int
 IntKind.i64
 x_117,
 Value.int
 IntKind.i64
 x_118,
 Value.string
 x_119,
 Value.slice
 p_8
 n_14
 c_8,
 Value.string
 x_120]]
 w'
 fun
 (e :
 Ending)
 (w' :
 World) =>
 ∃
 (x
 :
 ByteArray),
 ∃
 (x_121
 :
 ByteArray),
 ∃
 (x_122
 :
 ByteArray),
 ∃
 (x_123
 :
 ByteArray),
 ∃
 (x_124
 :
 Int),
 ∃
 (x_125
 :
 Int),
 ∃
 (x_126
 :
 ByteArray),
 ∃
 (p_9
 :
 Option
 Addr),
 ∃
 (n_15
 :
 Nat),
 ∃
 (c_9
 :
 Nat),
 ∃
 (x_127
 :
 ByteArray),
 e =
 Ending.returned
 (Value.agg
 #[Value.string
 x,
 Value.string
 x_121,
 Value.string
 x_122,
 Value.string
 x_123,
 Value.int
 IntKind.i64
 x_124,
 Value.int
 IntKind.i64
 x_125,
 Value.string
 x_126,
 Value.slice
 p_9
 n_15
 c_9,
 Value.string
 x_127]) ∧
 S
 w' ∧
 CallsS
 Tryd.prog
 16
 #[Value.agg
 #[Value.string
 x_105,
 Value.string
 x_106,
 Value.string
 x_107,
 Value.string
 x_108,
 Value.int
 IntKind.i64
 x_109,
 Value.int
 IntKind.i64
 x_110,
 Value.string
 x_111,
 Value.slice
 p
 n
 c,
 Value.string
 x_112],
 Value.agg
 #[Value.string
 x,
 Value.string
 x_121,
 Value.string
 x_122,
 Value.string
 x_123,
 Value.int
 IntKind.i64
 x_124,
 Value.int
 IntKind.i64
 x_125,
 Value.string
 x_126,
 Value.slice
 p_9
 n_15
 c_9,
 Value.string
 x_127]]
 w'
 fun
 (e :
 Ending)
 (w' :
 World) =>
 ∃
 (x
 :
 Bool),
 e =
 Ending.returned
 (Value.bool
 x) ∧
 KeptL
 [n_2,
 n_1]
 W
 w' ∧
 R
 (Ending.returned
 (Value.bool
 (true &&
 x)))
 w')
 (S
 w' ∧
 KeptL
 [n_2,
 n_1]
 W
 w' ∧
 R
 (Ending.returned
 (Value.bool
 false))
 w'))
 (S
 w' ∧
 S
 w' ∧
 S
 w' ∧
 S
 w' ∧
 ∃
 (x
 :
 ByteArray),
 ∃
 (x
 :
 ByteArray),
 ∃
 (x
 :
 ByteArray),
 ∃
 (x
 :
 ByteArray),
 ∃
 (x
 :
 Int),
 ∃
 (x
 :
 Int),
 ∃
 (x
 :
 ByteArray),
 ∃
 (p
 :
 Option
 Addr),
 ∃
 (n
 :
 Nat),
 ∃
 (c
 :
 Nat),
 ∃
 (x
 :
 ByteArray),
 True ∧
 ∃
 (x
 :
 ByteArray),
 ∃
 (x
 :
 ByteArray),
 ∃
 (x
 :
 ByteArray),
 ∃
 (x
 :
 ByteArray),
 ∃
 (x
 :
 Int),
 ∃
 (x
 :
 Int),
 ∃
 (x
 :
 ByteArray),
 ∃
 (p
 :
 Option
 Addr),
 ∃
 (n
 :
 Nat),
 ∃
 (c
 :
 Nat),
 ∃
 (x
 :
 ByteArray),
 True ∧
 S
 w' ∧
 KeptL
 [n_2,
 n_1]
 W
 w' ∧
 R
 (Ending.returned
 (Value.bool
 false))
 w'))
 (S w' ∧
 S w' ∧
 S w' ∧
 ∃ (x :
 ByteArray),
 ∃ (x :
 ByteArray),
 ∃ (x :
 ByteArray),
 ∃ (x :
 ByteArray),
 ∃ (x :
 Int),
 ∃ (x :
 Int),
 ∃ (x :
 ByteArray),
 ∃ (p
 :
 Option
 Addr),
 ∃ (n
 :
 Nat),
 ∃
 (c
 :
 Nat),
 ∃
 (x
 :
 ByteArray),
 True ∧
 ∃
 (x
 :
 ByteArray),
 ∃
 (x
 :
 ByteArray),
 ∃
 (x
 :
 ByteArray),
 ∃
 (x
 :
 ByteArray),
 ∃
 (x
 :
 Int),
 ∃
 (x
 :
 Int),
 ∃
 (x
 :
 ByteArray),
 ∃
 (p
 :
 Option
 Addr),
 ∃
 (n
 :
 Nat),
 ∃
 (c
 :
 Nat),
 ∃
 (x
 :
 ByteArray),
 True ∧
 ∃
 (x
 :
 ByteArray),
 ∃
 (x
 :
 ByteArray),
 ∃
 (x
 :
 ByteArray),
 ∃
 (x
 :
 ByteArray),
 ∃
 (x
 :
 Int),
 ∃
 (x
 :
 Int),
 ∃
 (x
 :
 ByteArray),
 ∃
 (p
 :
 Option
 Addr),
 ∃
 (n
 :
 Nat),
 ∃
 (c
 :
 Nat),
 ∃
 (x
 :
 ByteArray),
 True ∧
 ∃
 (x
 :
 ByteArray),
 ∃
 (x
 :
 ByteArray),
 ∃
 (x
 :
 ByteArray),
 ∃
 (x
 :
 ByteArray),
 ∃
 (x
 :
 Int),
 ∃
 (x
 :
 Int),
 ∃
 (x
 :
 ByteArray),
 ∃
 (p
 :
 Option
 Addr),
 ∃
 (n
 :
 Nat),
 ∃
 (c
 :
 Nat),
 ∃
 (x
 :
 ByteArray),
 True ∧
 S
 w' ∧
 S
 w' ∧
 S
 w' ∧
 S
 w' ∧
 ∃
 (x
 :
 ByteArray),
 ∃
 (x
 :
 ByteArray),
 ∃
 (x
 :
 ByteArray),
 ∃
 (x
 :
 ByteArray),
 ∃
 (x
 :
 Int),
 ∃
 (x
 :
 Int),
 ∃
 (x
 :
 ByteArray),
 ∃
 (p
 :
 Option
 Addr),
 ∃
 (n
 :
 Nat),
 ∃
 (c
 :
 Nat),
 ∃
 (x
 :
 ByteArray),
 True ∧
 ∃
 (x
 :
 ByteArray),
 ∃
 (x
 :
 ByteArray),
 ∃
 (x
 :
 ByteArray),
 ∃
 (x
 :
 ByteArray),
 ∃
 (x
 :
 Int),
 ∃
 (x
 :
 Int),
 ∃
 (x
 :
 ByteArray),
 ∃
 (p
 :
 Option
 Addr),
 ∃
 (n
 :
 Nat),
 ∃
 (c
 :
 Nat),
 ∃
 (x
 :
 ByteArray),
 True ∧
 S
 w' ∧
 KeptL
 [n_2,
 n_1]
 W
 w' ∧
 R
 (Ending.returned
 (Value.bool
 false))
 w')) ∧
 ∀ (n_7 : Nat) (w1_1 : World),
 NewB w1
 (Obj.cells
 #[Value.string (ByteArray.mk #[]), Value.string (ByteArray.mk #[]),
 Value.string (ByteArray.mk #[]), Value.string (ByteArray.mk #[]),
 Value.int IntKind.i64 0, Value.int IntKind.i64 0,
 Value.string (ByteArray.mk #[]), Value.slice none 0 0,
 Value.string (ByteArray.mk #[])]
 29)
 n_7 w1_1 →
 S w1_1 ∧
 CallsS Tryd.prog 8
 #[Value.agg
 #[Value.string x_8, Value.string x_9, Value.string x_10,
 Value.string x_11, Value.int IntKind.i64 x_12,
 Value.int IntKind.i64 x_13, Value.string x_14,
 Value.slice p_1 n_4 c_1, Value.string x_15]]
 w1_1 fun (e : Ending) (w' : World) =>
 ∃ (x_23 : ByteArray),
 ∃ (x_24 : ByteArray),
 ∃ (x_25 : ByteArray),
 ∃ (x_26 : ByteArray),
 ∃ (x_27 : Int),
 ∃ (x_28 : Int),
 ∃ (x_29 : ByteArray),
 ∃ (p_2 : Option Addr),
 ∃ (n_8 : Nat),
 ∃ (c_2 : Nat),
 ∃ (x_30 : ByteArray),
 e =
 Ending.returned
 (Value.agg
 #[Value.string x_23, Value.string x_24,
 Value.string x_25, Value.string x_26,
 Value.int IntKind.i64 x_27,
 Value.int IntKind.i64 x_28, Value.string x_29,
 Value.slice p_2 n_8 c_2, Value.string x_30]) ∧
 WrL w' n_7 0 9 ∧
 ∀ (w1 : World),
 PutB w' n_7 0
 [Value.string x, Value.string x_16,
 Value.string x_17, Value.string x_18,
 Value.int IntKind.i64 x_19,
 Value.int IntKind.i64 x_20, Value.string x_21,
 Value.slice p n_5 c, Value.string x_22]
 w1 →
 WrL w1 n_6 0 9 ∧
 ∀ (w1_2 : World),
 PutB w1 n_6 0
 [Value.string x_23, Value.string x_24,
 Value.string x_25, Value.string x_26,
 Value.int IntKind.i64 x_27,
 Value.int IntKind.i64 x_28, Value.string x_29,
 Value.slice p_2 n_8 c_2, Value.string x_30]
 w1_2 →
 KeptL [n_2, n_1] W w1_2 ∧
 ∀ (W : World),
 Loc w.heap.size
 [Blk.mk n_2 26
 [Value.string fuy, Value.string fsy,
 Value.string tuy, Value.string tsy,
 Value.int IntKind.i64 ny,
 Value.int IntKind.i64 dy,
 Value.string sjy, Value.slice hpy hny hcy,
 Value.string bdy]
 0,
 Blk.mk n_1 26
 [Value.string fu, Value.string fs,
 Value.string tu, Value.string ts,
 Value.int IntKind.i64 n,
 Value.int IntKind.i64 d, Value.string sj,
 Value.slice hp hn hc, Value.string bd]
 0]
 w1_2 W →
 ∃ (S : World → Prop),
 S W ∧
 CallsS Tryd.prog 13 #[] W
 fun (e : Ending) (w' : World) =>
 ∃ (x : Bool),
 e = Ending.returned (Value.bool x) ∧
 S w' ∧
 ∃ (x_31 : ByteArray),
 ∃ (x_32 : ByteArray),
 ∃ (x_33 : ByteArray),
 ∃ (x_34 : ByteArray),
 ∃ (x_35 : Int),
 ∃ (x_36 : Int),
 ∃ (x_37 : ByteArray),
 ∃ (p : Option Addr),
 ∃ (n : Nat),
 ∃ (c : Nat),
 ∃ (x_38 : ByteArray),
 gimp x
 (∀ (w' : World),
 S w' →
 AtL w' n_7 0
 [Value.string x_31,
 Value.string x_32,
 Value.string x_33,
 Value.string x_34,
 Value.int IntKind.i64
 x_35,
 Value.int IntKind.i64
 x_36,
 Value.string x_37,
 Value.slice p n c,
 Value.string x_38]) ∧
 ∃ (x_39 : ByteArray),
 ∃ (x_40 : ByteArray),
 ∃ (x_41 : ByteArray),
 ∃ (x_42 : ByteArray),
 ∃ (x_43 : Int),
 ∃ (x_44 : Int),
 ∃ (x_45 : ByteArray),
 ∃ (p_3 :
 Option Addr),
 ∃ (n_9 : Nat),
 ∃ (c_3 : Nat),
 ∃ (x_46 :
 ByteArray),
 gimp x
 (∀
 (w' : World),
 S w' →
 AtL w' n_7 0
 [Value.string
 x_39,
 Value.string
 x_40,
 Value.string
 x_41,
 Value.string
 x_42,
 Value.int
 IntKind.i64
 x_43,
 Value.int
 IntKind.i64
 x_44,
 Value.string
 x_45,
 Value.slice
 p_3 n_9
 c_3,
 Value.string
 x_46]) ∧
 bsp x
 (CallsS
 Tryd.prog 14
 #[Value.agg
 #[Value.string
 x_31,
 Value.string
 x_32,
 Value.string
 x_33,
 Value.string
 x_34,
 Value.int
 IntKind.i64
 x_35,
 Value.int
 IntKind.i64
 x_36,
 Value.string
 x_37,
 Value.slice
 p n c,
 Value.string
 x_38]]
 w'
 fun
 (e : Ending)
 (w' :
 World) =>
 ∃ (x : Int),
 e =
 Ending.returned
 (Value.int
 IntKind.i64
 x) ∧
 S w' ∧
 CallsS
 Tryd.prog
 11
 #[Value.agg
 #[Value.string
 x_39,
 Value.string
 x_40,
 Value.string
 x_41,
 Value.string
 x_42,
 Value.int
 IntKind.i64
 x_43,
 Value.int
 IntKind.i64
 x_44,
 Value.string
 x_45,
 Value.slice
 p_3
 n_9
 c_3,
 Value.string
 x_46]]
 w'
 fun
 (e :
 Ending)
 (w' :
 World) =>
 ∃ (x_47 :
 ByteArray),
 ∃ (x_48 :
 ByteArray),
 ∃ (x_49
 :
 ByteArray),
 ∃ (x_50
 :
 ByteArray),
 ∃
 (x_51
 :
 Int),
 ∃
 (x_52
 :
 Int),
 ∃
 (x_53
 :
 ByteArray),
 ∃
 (p
 :
 Option
 Addr),
 ∃
 (n
 :
 Nat),
 ∃
 (c
 :
 Nat),
 ∃
 (x_54
 :
 ByteArray),
 e =
 Ending.returned
 (Value.agg
 #[Value.string
 x_47,
 Value.string
 x_48,
 Value.string
 x_49,
 Value.string
 x_50,
 Value.int
 IntKind.i64
 x_51,
 Value.int
 IntKind.i64
 x_52,
 Value.string
 x_53,
 Value.slice
 p
 n
 c,
 Value.string
 x_54]) ∧
 S
 w' ∧
 CallsS
 Tryd.prog
 15
 #[Value.agg
 #[Value.string
 x_47,
 Value.string
 x_48,
 Value.string
 x_49,
 Value.string
 x_50,
 Value.int
 IntKind.i64
 x_51,
 Value.int
 IntKind.i64
 x_52,
 Value.string
 x_53,
 Value.slice
 p
 n
 c,
 Value.string
 x_54]]
 w'
 fun
 (e :
 Ending)
 (w' :
 World) =>
 ∃
 (x_55
 :
 Int),
 e =
 Ending.returned
 (Value.int
 IntKind.i64
 x_55) ∧
 S
 w' ∧
 ∃
 (x_56
 :
 ByteArray),
 ∃
 (x_57
 :
 ByteArray),
 ∃
 (x_58
 :
 ByteArray),
 ∃
 (x_59
 :
 ByteArray),
 ∃
 (x_60
 :
 Int),
 ∃
 (x_61
 :
 Int),
 ∃
 (x_62
 :
 ByteArray),
 ∃
 (p
 :
 Option
 Addr),
 ∃
 (n
 :
 Nat),
 ∃
 (c
 :
 Nat),
 ∃
 (x_63
 :
 ByteArray),
 gimp
 (true &&
 x ==
 x_55)
 (∀
 (w' :
 World),
 S
 w' →
 AtL
 w'
 n_7
 0
 [Value.string
 x_56,
 Value.string
 x_57,
 Value.string
 x_58,
 Value.string
 x_59,
 Value.int
 IntKind.i64
 x_60,
 Value.int
 IntKind.i64
 x_61,
 Value.string
 x_62,
 Value.slice
 p
 n
 c,
 Value.string
 x_63]) ∧
 ∃
 (x_64
 :
 ByteArray),
 ∃
 (x_65
 :
 ByteArray),
 ∃
 (x_66
 :
 ByteArray),
 ∃
 (x_67
 :
 ByteArray),
 ∃
 (x_68
 :
 Int),
 ∃
 (x_69
 :
 Int),
 ∃
 (x_70
 :
 ByteArray),
 ∃
 (p_4
 :
 Option
 Addr),
 ∃
 (n_10
 :
 Nat),
 ∃
 (c_4
 :
 Nat),
 ∃
 (x_71
 :
 ByteArray),
 gimp
 (true &&
 x ==
 x_55)
 (∀
 (w' :
 World),
 S
 w' →
 AtL
 w'
 n_6
 0
 [Value.string
 x_64,
 Value.string
 x_65,
 Value.string
 x_66,
 Value.string
 x_67,
 Value.int
 IntKind.i64
 x_68,
 Value.int
 IntKind.i64
 x_69,
 Value.string
 x_70,
 Value.slice
 p_4
 n_10
 c_4,
 Value.string
 x_71]) ∧
 ∃
 (x_72
 :
 ByteArray),
 ∃
 (x_73
 :
 ByteArray),
 ∃
 (x_74
 :
 ByteArray),
 ∃
 (x_75
 :
 ByteArray),
 ∃
 (x_76
 :
 Int),
 ∃
 (x_77
 :
 Int),
 ∃
 (x_78
 :
 ByteArray),
 ∃
 (p_5
 :
 Option
 Addr),
 ∃
 (n_11
 :
 Nat),
 ∃
 (c_5
 :
 Nat),
 ∃
 (x_79
 :
 ByteArray),
 gimp
 (true &&
 x ==
 x_55)
 (∀
 (w' :
 World),
 S
 w' →
 AtL
 w'
 n_7
 0
 [Value.string
 x_72,
 Value.string
 x_73,
 Value.string
 x_74,
 Value.string
 x_75,
 Value.int
 IntKind.i64
 x_76,
 Value.int
 IntKind.i64
 x_77,
 Value.string
 x_78,
 Value.slice
 p_5
 n_11
 c_5,
 Value.string
 x_79]) ∧
 ∃
 (x_80
 :
 ByteArray),
 ∃
 (x_81
 :
 ByteArray),
 ∃
 (x_82
 :
 ByteArray),
 ∃
 (x_83
 :
 ByteArray),
 ∃
 (x_84
 :
 Int),
 ∃
 (x_85
 :
 Int),
 ∃
 (x_86
 :
 ByteArray),
 ∃
 (p_6
 :
 Option
 Addr),
 ∃
 (n_12
 :
 Nat),
 ∃
 (c_6
 :
 Nat),
 ∃
 (x_87
 :
 ByteArray),
 gimp
 (true &&
 x ==
 x_55)
 (∀
 (w' :
 World),
 S
 w' →
 AtL
 w'
 n_6
 0
 [Value.string
 x_80,
 Value.string
 x_81,
 Value.string
 x_82,
 Value.string
 x_83,
 Value.int
 IntKind.i64
 x_84,
 Value.int
 IntKind.i64
 x_85,
 Value.string
 x_86,
 Value.slice
 p_6
 n_12
 c_6,
 Value.string
 x_87]) ∧
 bsp
 (true &&
 x ==
 x_55)
 (CallsS
 Tryd.prog
 16
 #[Value.agg
 #[Value.string
 x_56,
 Value.string
 x_57,
 Value.string
 x_58,
 Value.string
 x_59,
 Value.int
 IntKind.i64
 x_60,
 Value.int
 IntKind.i64
 x_61,
 Value.string
 x_62,
 Value.slice
 p
 n
 c,
 Value.string
 x_63],
 Value.agg
 #[Value.string
 x_64,
 Value.string
 x_65,
 Value.string
 x_66,
 Value.string
 x_67,
 Value.int
 IntKind.i64
 x_68,
 Value.int
 IntKind.i64
 x_69,
 Value.string
 x_70,
 Value.slice
 p_4
 n_10
 c_4,
 Value.string
 x_71]]
 w'
 fun
 (e :
 Ending)
 (w' :
 World) =>
 ∃
 (x
 :
 Bool),
 e =
 Ending.returned
 (Value.bool
 x) ∧
 S
 w' ∧
 CallsS
 Tryd.prog
 11
 #[Value.agg
 #[Value.string
 x_72,
 Value.string
 x_73,
 Value.string
 x_74,
 Value.string
 x_75,
 Value.int
 IntKind.i64
 x_76,
 Value.int
 IntKind.i64
 x_77,
 Value.string
 x_78,
 Value.slice
 p_5
 n_11
 c_5,
 Value.string
 x_79]]
 w'
 fun
 (e :
 Ending)
 (w' :
 World) =>
 ∃
 (x_88
 :
 ByteArray),
 ∃
 (x_89
 :
 ByteArray),
 ∃
 (x_90
 :
 ByteArray),
 ∃
 (x_91
 :
 ByteArray),
 ∃
 (x_92
 :
 Int),
 ∃
 (x_93
 :
 Int),
 ∃
 (x_94
 :
 ByteArray),
 ∃
 (p
 :
 Option
 Addr),
 ∃
 (n
 :
 Nat),
 ∃
 (c
 :
 Nat),
 ∃
 (x_95
 :
 ByteArray),
 e =
 Ending.returned
 (Value.agg
 #[Value.string
 x_88,
 Value.string
 x_89,
 Value.string
 x_90,
 Value.string
 x_91,
 Value.int
 IntKind.i64
 x_92,
 Value.int
 IntKind.i64
 x_93,
 Value.string
 x_94,
 Value.slice
 p
 n
 c,
 Value.string
 x_95]) ∧
 S
 w' ∧
 CallsS
 Tryd.prog
 11
 #[Value.agg
 #[Value.string
 x_80,
 Value.string
 x_81,
 Value.string
 x_82,
 Value.string
 x_83,
 Value.int
 IntKind.i64
 x_84,
 Value.int
 IntKind.i64
 x_85,
 Value.string
 x_86,
 Value.slice
 p_6
 n_12
 c_6,
 Value.string
 x_87]]
 w'
 fun
 (e :
 Ending)
 (w' :
 World) =>
 ∃
 (x_96
 :
 ByteArray),
 ∃
 (x_97
 :
 ByteArray),
 ∃
 (x_98
 :
 ByteArray),
 ∃
 (x_99
 :
 ByteArray),
 ∃
 (x_100
 :
 Int),
 ∃
 (x_101
 :
 Int),
 ∃
 (x_102
 :
 ByteArray),
 ∃
 (p_7
 :
 Option
 Addr),
 ∃
 (n_13
 :
 Nat),
 ∃
 (c_7
 :
 Nat),
 ∃
 (x_103
 :
 ByteArray),
 e =
 Ending.returned
 (Value.agg
 #[Value.string
 x_96,
 Value.string
 x_97,
 Value.string
 x_98,
 Value.string
 x_99,
 Value.int
 IntKind.i64
 x_100,
 Value.int
 IntKind.i64
 x_101,
 Value.string
 x_102,
 Value.slice
 p_7
 n_13
 c_7,
 Value.string
 x_103]) ∧
 S
 w' ∧
 CallsS
 Tryd.prog
 12
 #[Value.agg
 #[Value.string
 x_88,
 Value.string
 x_89,
 Value.string
 x_90,
 Value.string
 x_91,
 Value.int
 IntKind.i64
 x_92,
 Value.int
 IntKind.i64
 x_93,
 Value.string
 x_94,
 Value.slice
 p
 n
 c,
 Value.string
 x_95],
 Value.agg
 #[Value.string
 x_96,
 Value.string
 x_97,
 Value.string
 x_98,
 Value.string
 x_99,
 Value.int
 IntKind.i64
 x_100,
 Value.int
 IntKind.i64
 x_101,
 Value.string
 x_102,
 Value.slice
 p_7
 n_13
 c_7,
 Value.string
 x_103]]
 w'
 fun
 (e :
 Ending)
 (w' :
 World) =>
 ∃
 (x_104
 :
 Bool),
 e =
 Ending.returned
 (Value.bool
 x_104) ∧
 S
 w' ∧
 ∃
 (x_105
 :
 ByteArray),
 ∃
 (x_106
 :
 ByteArray),
 ∃
 (x_107
 :
 ByteArray),
 ∃
 (x_108
 :
 ByteArray),
 ∃
 (x_109
 :
 Int),
 ∃
 (x_110
 :
 Int),
 ∃
 (x_111
 :
 ByteArray),
 ∃
 (p
 :
 Option
 Addr),
 ∃
 (n
 :
 Nat),
 ∃
 (c
 :
 Nat),
 ∃
 (x_112
 :
 ByteArray),
 gimp
 (true &&
 x ==
 x_104)
 (∀
 (w' :
 World),
 S
 w' →
 AtL
 w'
 n_7
 0
 [Value.string
 x_105,
 Value.string
 x_106,
 Value.string
 x_107,
 Value.string
 x_108,
 Value.int
 IntKind.i64
 x_109,
 Value.int
 IntKind.i64
 x_110,
 Value.string
 x_111,
 Value.slice
 p
 n
 c,
 Value.string
 x_112]) ∧
 ∃
 (x_113
 :
 ByteArray),
 ∃
 (x_114
 :
 ByteArray),
 ∃
 (x_115
 :
 ByteArray),
 ∃
 (x_116
 :
 ByteArray),
 ∃
 (x_117
 :
 Int),
 ∃
 (x_118
 :
 Int),
 ∃
 (x_119
 :
 ByteArray),
 ∃
 (p_8
 :
 Option
 Addr),
 ∃
 (n_14
 :
 Nat),
 ∃
 (c_8
 :
 Nat),
 ∃
 (x_120
 :
 ByteArray),
 gimp
 (true &&
 x ==
 x_104)
 (∀
 (w' :
 World),
 S
 w' →
 AtL
 w'
 n_1
 0
 [Value.string
 x_113,
 Value.string
 x_114,
 Value.string
 x_115,
 Value.string
 x_116,
 Value.int
 IntKind.i64
 x_117,
 Value.int
 IntKind.i64
 x_118,
 Value.string
 x_119,
 Value.slice
 p_8
 n_14
 c_8,
 Value.string
 x_120]) ∧
 bsp
 (true &&
 x ==
 x_104)
 (CallsS
 Tryd.prog
 8
 #[Value.agg
 #[Value.string
 x_113,
 Value.string
 x_114,
 Value.string
 x_115,
 Value.string
 x_116,
 Value.int
 IntKind.i64
 x_117,
 Value.int
 IntKind.i64
 x_118,
 Value.string
 x_119,
 Value.slice
 p_8
 n_14
 c_8,
 Value.string
 x_120]]
 w'
 fun
 (e :
 Ending)
 (w' :
 World) =>
 ∃
 (x
 :
 ByteArray),
 ∃
 (x_121
 :
 ByteArray),
 ∃
 (x_122
 :
 ByteArray),
 ∃
 (x_123
 :
 ByteArray),
 ∃
 (x_124
 :
 Int),
 ∃
 (x_125
 :
 Int),
 ∃
 (x_126
 :
 ByteArray),
 ∃
 (p_9
 :
 Option
 Addr),
 ∃
 (n_15
 :
 Nat),
 ∃
 (c_9
 :
 Nat),
 ∃
 (x_127
 :
 ByteArray),
 e =
 Ending.returned
 (Value.agg
 #[Value.string
 x,
 Value.string
 x_121,
 Value.string
 x_122,
 Value.string
 x_123,
 Value.int
 IntKind.i64
 x_124,
 Value.int
 IntKind.i64
 x_125,
 Value.string
 x_126,
 Value.slice
 p_9
 n_15
 c_9,
 Value.string
 x_127]) ∧
 S
 w' ∧
 CallsS
 Tryd.prog
 16
 #[Value.agg
 #[Value.string
 x_105,
 Value.string
 x_106,
 Value.string
 x_107,
 Value.string
 x_108,
 Value.int
 IntKind.i64
 x_109,
 Value.int
 IntKind.i64
 x_110,
 Value.string
 x_111,
 Value.slice
 p
 n
 c,
 Value.string
 x_112],
 Value.agg
 #[Value.string
 x,
 Value.string
 x_121,
 Value.string
 x_122,
 Value.string
 x_123,
 Value.int
 IntKind.i64
 x_124,
 Value.int
 IntKind.i64
 x_125,
 Value.string
 x_126,
 Value.slice
 p_9
 n_15
 c_9,
 Value.string
 x_127]]
 w'
 fun
 (e :
 Ending)
 (w' :
 World) =>
 ∃
 (x
 :
 Bool),
 e =
 Ending.returned
 (Value.bool
 x) ∧
 KeptL
 [n_2,
 n_1]
 W
 w' ∧
 R
 (Ending.returned
 (Value.bool
 (true &&
 x)))
 w')
 (S
 w' ∧
 KeptL
 [n_2,
 n_1]
 W
 w' ∧
 R
 (Ending.returned
 (Value.bool
 false))
 w'))
 (S
 w' ∧
 S
 w' ∧
 S
 w' ∧
 S
 w' ∧
 ∃
 (x
 :
 ByteArray),
 ∃
 (x
 :
 ByteArray),
 ∃
 (x
 :
 ByteArray),
 ∃
 (x
 :
 ByteArray),
 ∃
 (x
 :
 Int),
 ∃
 (x
 :
 Int),
 ∃
 (x
 :
 ByteArray),
 ∃
 (p
 :
 Option
 Addr),
 ∃
 (n
 :
 Nat),
 ∃
 (c
 :
 Nat),
 ∃
 (x
 :
 ByteArray),
 True ∧
 ∃
 (x
 :
 ByteArray),
 ∃
 (x
 :
 ByteArray),
 ∃
 (x
 :
 ByteArray),
 ∃
 (x
 :
 ByteArray),
 ∃
 (x
 :
 Int),
 ∃
 (x
 :
 Int),
 ∃
 (x
 :
 ByteArray),
 ∃
 (p
 :
 Option
 Addr),
 ∃
 (n
 :
 Nat),
 ∃
 (c
 :
 Nat),
 ∃
 (x
 :
 ByteArray),
 True ∧
 S
 w' ∧
 KeptL
 [n_2,
 n_1]
 W
 w' ∧
 R
 (Ending.returned
 (Value.bool
 false))
 w'))
 (S w' ∧
 S w' ∧
 S w' ∧
 ∃ (x :
 ByteArray),
 ∃ (x :
 ByteArray),
 ∃ (x :
 ByteArray),
 ∃ (x :
 ByteArray),
 ∃ (x :
 Int),
 ∃ (x :
 Int),
 ∃ (x :
 ByteArray),
 ∃ (p
 :
 Option
 Addr),
 ∃ (n
 :
 Nat),
 ∃
 (c
 :
 Nat),
 ∃
 (x
 :
 ByteArray),
 True ∧
 ∃
 (x
 :
 ByteArray),
 ∃
 (x
 :
 ByteArray),
 ∃
 (x
 :
 ByteArray),
 ∃
 (x
 :
 ByteArray),
 ∃
 (x
 :
 Int),
 ∃
 (x
 :
 Int),
 ∃
 (x
 :
 ByteArray),
 ∃
 (p
 :
 Option
 Addr),
 ∃
 (n
 :
 Nat),
 ∃
 (c
 :
 Nat),
 ∃
 (x
 :
 ByteArray),
 True ∧
 ∃
 (x
 :
 ByteArray),
 ∃
 (x
 :
 ByteArray),
 ∃
 (x
 :
 ByteArray),
 ∃
 (x
 :
 ByteArray),
 ∃
 (x
 :
 Int),
 ∃
 (x
 :
 Int),
 ∃
 (x
 :
 ByteArray),
 ∃
 (p
 :
 Option
 Addr),
 ∃
 (n
 :
 Nat),
 ∃
 (c
 :
 Nat),
 ∃
 (x
 :
 ByteArray),
 True ∧
 ∃
 (x
 :
 ByteArray),
 ∃
 (x
 :
 ByteArray),
 ∃
 (x
 :
 ByteArray),
 ∃
 (x
 :
 ByteArray),
 ∃
 (x
 :
 Int),
 ∃
 (x
 :
 Int),
 ∃
 (x
 :
 ByteArray),
 ∃
 (p
 :
 Option
 Addr),
 ∃
 (n
 :
 Nat),
 ∃
 (c
 :
 Nat),
 ∃
 (x
 :
 ByteArray),
 True ∧
 S
 w' ∧
 S
 w' ∧
 S
 w' ∧
 S
 w' ∧
 ∃
 (x
 :
 ByteArray),
 ∃
 (x
 :
 ByteArray),
 ∃
 (x
 :
 ByteArray),
 ∃
 (x
 :
 ByteArray),
 ∃
 (x
 :
 Int),
 ∃
 (x
 :
 Int),
 ∃
 (x
 :
 ByteArray),
 ∃
 (p
 :
 Option
 Addr),
 ∃
 (n
 :
 Nat),
 ∃
 (c
 :
 Nat),
 ∃
 (x
 :
 ByteArray),
 True ∧
 ∃
 (x
 :
 ByteArray),
 ∃
 (x
 :
 ByteArray),
 ∃
 (x
 :
 ByteArray),
 ∃
 (x
 :
 ByteArray),
 ∃
 (x
 :
 Int),
 ∃
 (x
 :
 Int),
 ∃
 (x
 :
 ByteArray),
 ∃
 (p
 :
 Option
 Addr),
 ∃
 (n
 :
 Nat),
 ∃
 (c
 :
 Nat),
 ∃
 (x
 :
 ByteArray),
 True ∧
 S
 w' ∧
 KeptL
 [n_2,
 n_1]
 W
 w' ∧
 R
 (Ending.returned
 (Value.bool
 false))
 w')) ∧
 (∀ (n_5 : Nat) (w1 : World),
 NewB W
 (Obj.cells
 #[Value.string (ByteArray.mk #[]), Value.string (ByteArray.mk #[]),
 Value.string (ByteArray.mk #[]), Value.string (ByteArray.mk #[]),
 Value.int IntKind.i64 0, Value.int IntKind.i64 0, Value.string (ByteArray.mk #[]),
 Value.slice none 0 0, Value.string (ByteArray.mk #[])]
 29)
 n_5 w1 →
 S w1 ∧
 (CallsS Tryd.prog 8
 #[Value.agg
 #[Value.string x, Value.string x_1, Value.string x_2, Value.string x_3,
 Value.int IntKind.i64 x_4, Value.int IntKind.i64 x_5, Value.string x_6,
 Value.slice p n_3 c, Value.string x_7]]
 w1 fun (e : Ending) (w' : World) =>
 ∃ (x : ByteArray),
 ∃ (x_16 : ByteArray),
 ∃ (x_17 : ByteArray),
 ∃ (x_18 : ByteArray),
 ∃ (x_19 : Int),
 ∃ (x_20 : Int),
 ∃ (x_21 : ByteArray),
 ∃ (p : Option Addr),
 ∃ (n_6 : Nat),
 ∃ (c : Nat),
 ∃ (x_22 : ByteArray),
 e =
 Ending.returned
 (Value.agg
 #[Value.string x, Value.string x_16, Value.string x_17,
 Value.string x_18, Value.int IntKind.i64 x_19,
 Value.int IntKind.i64 x_20, Value.string x_21, Value.slice p n_6 c,
 Value.string x_22]) ∧
 S w' ∧
 (CallsS Tryd.prog 8
 #[Value.agg
 #[Value.string x_8, Value.string x_9, Value.string x_10,
 Value.string x_11, Value.int IntKind.i64 x_12,
 Value.int IntKind.i64 x_13, Value.string x_14,
 Value.slice p_1 n_4 c_1, Value.string x_15]]
 w' fun (e : Ending) (w' : World) =>
 ∃ (x_23 : ByteArray),
 ∃ (x_24 : ByteArray),
 ∃ (x_25 : ByteArray),
 ∃ (x_26 : ByteArray),
 ∃ (x_27 : Int),
 ∃ (x_28 : Int),
 ∃ (x_29 : ByteArray),
 ∃ (p_2 : Option Addr),
 ∃ (n_7 : Nat),
 ∃ (c_2 : Nat),
 ∃ (x_30 : ByteArray),
 e =
 Ending.returned
 (Value.agg
 #[Value.string x_23, Value.string x_24,
 Value.string x_25, Value.string x_26,
 Value.int IntKind.i64 x_27,
 Value.int IntKind.i64 x_28, Value.string x_29,
 Value.slice p_2 n_7 c_2, Value.string x_30]) ∧
 ∀ (n_8 : Nat) (w1 : World),
 NewB w'
 (Obj.cells
 #[Value.string (ByteArray.mk #[]),
 Value.string (ByteArray.mk #[]),
 Value.string (ByteArray.mk #[]),
 Value.string (ByteArray.mk #[]),
 Value.int IntKind.i64 0, Value.int IntKind.i64 0,
 Value.string (ByteArray.mk #[]),
 Value.slice none 0 0,
 Value.string (ByteArray.mk #[])]
 29)
 n_8 w1 →
 S w1 ∧
 WrL w1 n_5 0 9 ∧
 ∀ (w1_1 : World),
 PutB w1 n_5 0
 [Value.string x, Value.string x_16,
 Value.string x_17, Value.string x_18,
 Value.int IntKind.i64 x_19,
 Value.int IntKind.i64 x_20, Value.string x_21,
 Value.slice p n_6 c, Value.string x_22]
 w1_1 →
 WrL w1_1 n_8 0 9 ∧
 ∀ (w1 : World),
 PutB w1_1 n_8 0
 [Value.string x_23, Value.string x_24,
 Value.string x_25, Value.string x_26,
 Value.int IntKind.i64 x_27,
 Value.int IntKind.i64 x_28, Value.string x_29,
 Value.slice p_2 n_7 c_2, Value.string x_30]
 w1 →
 KeptL [n_2, n_1] W w1 ∧
 ∀ (W : World),
 Loc w.heap.size
 [Blk.mk n_2 26
 [Value.string fuy, Value.string fsy,
 Value.string tuy, Value.string tsy,
 Value.int IntKind.i64 ny,
 Value.int IntKind.i64 dy,
 Value.string sjy, Value.slice hpy hny hcy,
 Value.string bdy]
 0,
 Blk.mk n_1 26
 [Value.string fu, Value.string fs,
 Value.string tu, Value.string ts,
 Value.int IntKind.i64 n,
 Value.int IntKind.i64 d, Value.string sj,
 Value.slice hp hn hc, Value.string bd]
 0]
 w1 W →
 ∃ (S : World → Prop),
 S W ∧
 CallsS Tryd.prog 13 #[] W
 fun (e : Ending) (w' : World) =>
 ∃ (x : Bool),
 e = Ending.returned (Value.bool x) ∧
 S w' ∧
 ∃ (x_31 : ByteArray),
 ∃ (x_32 : ByteArray),
 ∃ (x_33 : ByteArray),
 ∃ (x_34 : ByteArray),
 ∃ (x_35 : Int),
 ∃ (x_36 : Int),
 ∃ (x_37 : ByteArray),
 ∃ (p : Option Addr),
 ∃ (n : Nat),
 ∃ (c : Nat),
 ∃ (x_38 : ByteArray),
 gimp x
 (∀ (w' : World),
 S w' →
 AtL w' n_5 0
 [Value.string x_31,
 Value.string x_32,
 Value.string x_33,
 Value.string x_34,
 Value.int IntKind.i64
 x_35,
 Value.int IntKind.i64
 x_36,
 Value.string x_37,
 Value.slice p n c,
 Value.string x_38]) ∧
 ∃ (x_39 : ByteArray),
 ∃ (x_40 : ByteArray),
 ∃ (x_41 : ByteArray),
 ∃ (x_42 : ByteArray),
 ∃ (x_43 : Int),
 ∃ (x_44 : Int),
 ∃ (x_45 : ByteArray),
 ∃ (p_3 :
 Option Addr),
 ∃ (n_9 : Nat),
 ∃ (c_3 : Nat),
 ∃ (x_46 :
 ByteArray),
 gimp x
 (∀
 (w' : World),
 S w' →
 AtL w' n_5 0
 [Value.string
 x_39,
 Value.string
 x_40,
 Value.string
 x_41,
 Value.string
 x_42,
 Value.int
 IntKind.i64
 x_43,
 Value.int
 IntKind.i64
 x_44,
 Value.string
 x_45,
 Value.slice
 p_3 n_9
 c_3,
 Value.string
 x_46]) ∧
 bsp x
 (CallsS
 Tryd.prog 14
 #[Value.agg
 #[Value.string
 x_31,
 Value.string
 x_32,
 Value.string
 x_33,
 Value.string
 x_34,
 Value.int
 IntKind.i64
 x_35,
 Value.int
 IntKind.i64
 x_36,
 Value.string
 x_37,
 Value.slice
 p n c,
 Value.string
 x_38]]
 w'
 fun
 (e : Ending)
 (w' :
 World) =>
 ∃ (x : Int),
 e =
 Ending.returned
 (Value.int
 IntKind.i64
 x) ∧
 S w' ∧
 CallsS
 Tryd.prog
 11
 #[Value.agg
 #[Value.string
 x_39,
 Value.string
 x_40,
 Value.string
 x_41,
 Value.string
 x_42,
 Value.int
 IntKind.i64
 x_43,
 Value.int
 IntKind.i64
 x_44,
 Value.string
 x_45,
 Value.slice
 p_3
 n_9
 c_3,
 Value.string
 x_46]]
 w'
 fun
 (e :
 Ending)
 (w' :
 World) =>
 ∃ (x_47 :
 ByteArray),
 ∃ (x_48 :
 ByteArray),
 ∃ (x_49
 :
 ByteArray),
 ∃ (x_50
 :
 ByteArray),
 ∃
 (x_51
 :
 Int),
 ∃
 (x_52
 :
 Int),
 ∃
 (x_53
 :
 ByteArray),
 ∃
 (p
 :
 Option
 Addr),
 ∃
 (n
 :
 Nat),
 ∃
 (c
 :
 Nat),
 ∃
 (x_54
 :
 ByteArray),
 e =
 Ending.returned
 (Value.agg
 #[Value.string
 x_47,
 Value.string
 x_48,
 Value.string
 x_49,
 Value.string
 x_50,
 Value.int
 IntKind.i64
 x_51,
 Value.int
 IntKind.i64
 x_52,
 Value.string
 x_53,
 Value.slice
 p
 n
 c,
 Value.string
 x_54]) ∧
 S
 w' ∧
 CallsS
 Tryd.prog
 15
 #[Value.agg
 #[Value.string
 x_47,
 Value.string
 x_48,
 Value.string
 x_49,
 Value.string
 x_50,
 Value.int
 IntKind.i64
 x_51,
 Value.int
 IntKind.i64
 x_52,
 Value.string
 x_53,
 Value.slice
 p
 n
 c,
 Value.string
 x_54]]
 w'
 fun
 (e :
 Ending)
 (w' :
 World) =>
 ∃
 (x_55
 :
 Int),
 e =
 Ending.returned
 (Value.int
 IntKind.i64
 x_55) ∧
 S
 w' ∧
 ∃
 (x_56
 :
 ByteArray),
 ∃
 (x_57
 :
 ByteArray),
 ∃
 (x_58
 :
 ByteArray),
 ∃
 (x_59
 :
 ByteArray),
 ∃
 (x_60
 :
 Int),
 ∃
 (x_61
 :
 Int),
 ∃
 (x_62
 :
 ByteArray),
 ∃
 (p
 :
 Option
 Addr),
 ∃
 (n
 :
 Nat),
 ∃
 (c
 :
 Nat),
 ∃
 (x_63
 :
 ByteArray),
 gimp
 (true &&
 x ==
 x_55)
 (∀
 (w' :
 World),
 S
 w' →
 AtL
 w'
 n_5
 0
 [Value.string
 x_56,
 Value.string
 x_57,
 Value.string
 x_58,
 Value.string
 x_59,
 Value.int
 IntKind.i64
 x_60,
 Value.int
 IntKind.i64
 x_61,
 Value.string
 x_62,
 Value.slice
 p
 n
 c,
 Value.string
 x_63]) ∧
 ∃
 (x_64
 :
 ByteArray),
 ∃
 (x_65
 :
 ByteArray),
 ∃
 (x_66
 :
 ByteArray),
 ∃
 (x_67
 :
 ByteArray),
 ∃
 (x_68
 :
 Int),
 ∃
 (x_69
 :
 Int),
 ∃
 (x_70
 :
 ByteArray),
 ∃
 (p_4
 :
 Option
 Addr),
 ∃
 (n_10
 :
 Nat),
 ∃
 (c_4
 :
 Nat),
 ∃
 (x_71
 :
 ByteArray),
 gimp
 (true &&
 x ==
 x_55)
 (∀
 (w' :
 World),
 S
 w' →
 AtL
 w'
 n_8
 0
 [Value.string
 x_64,
 Value.string
 x_65,
 Value.string
 x_66,
 Value.string
 x_67,
 Value.int
 IntKind.i64
 x_68,
 Value.int
 IntKind.i64
 x_69,
 Value.string
 x_70,
 Value.slice
 p_4
 n_10
 c_4,
 Value.string
 x_71]) ∧
 ∃
 (x_72
 :
 ByteArray),
 ∃
 (x_73
 :
 ByteArray),
 ∃
 (x_74
 :
 ByteArray),
 ∃
 (x_75
 :
 ByteArray),
 ∃
 (x_76
 :
 Int),
 ∃
 (x_77
 :
 Int),
 ∃
 (x_78
 :
 ByteArray),
 ∃
 (p_5
 :
 Option
 Addr),
 ∃
 (n_11
 :
 Nat),
 ∃
 (c_5
 :
 Nat),
 ∃
 (x_79
 :
 ByteArray),
 gimp
 (true &&
 x ==
 x_55)
 (∀
 (w' :
 World),
 S
 w' →
 AtL
 w'
 n_5
 0
 [Value.string
 x_72,
 Value.string
 x_73,
 Value.string
 x_74,
 Value.string
 x_75,
 Value.int
 IntKind.i64
 x_76,
 Value.int
 IntKind.i64
 x_77,
 Value.string
 x_78,
 Value.slice
 p_5
 n_11
 c_5,
 Value.string
 x_79]) ∧
 ∃
 (x_80
 :
 ByteArray),
 ∃
 (x_81
 :
 ByteArray),
 ∃
 (x_82
 :
 ByteArray),
 ∃
 (x_83
 :
 ByteArray),
 ∃
 (x_84
 :
 Int),
 ∃
 (x_85
 :
 Int),
 ∃
 (x_86
 :
 ByteArray),
 ∃
 (p_6
 :
 Option
 Addr),
 ∃
 (n_12
 :
 Nat),
 ∃
 (c_6
 :
 Nat),
 ∃
 (x_87
 :
 ByteArray),
 gimp
 (true &&
 x ==
 x_55)
 (∀
 (w' :
 World),
 S
 w' →
 AtL
 w'
 n_8
 0
 [Value.string
 x_80,
 Value.string
 x_81,
 Value.string
 x_82,
 Value.string
 x_83,
 Value.int
 IntKind.i64
 x_84,
 Value.int
 IntKind.i64
 x_85,
 Value.string
 x_86,
 Value.slice
 p_6
 n_12
 c_6,
 Value.string
 x_87]) ∧
 bsp
 (true &&
 x ==
 x_55)
 (CallsS
 Tryd.prog
 16
 #[Value.agg
 #[Value.string
 x_56,
 Value.string
 x_57,
 Value.string
 x_58,
 Value.string
 x_59,
 Value.int
 IntKind.i64
 x_60,
 Value.int
 IntKind.i64
 x_61,
 Value.string
 x_62,
 Value.slice
 p
 n
 c,
 Value.string
 x_63],
 Value.agg
 #[Value.string
 x_64,
 Value.string
 x_65,
 Value.string
 x_66,
 Value.string
 x_67,
 Value.int
 IntKind.i64
 x_68,
 Value.int
 IntKind.i64
 x_69,
 Value.string
 x_70,
 Value.slice
 p_4
 n_10
 c_4,
 Value.string
 x_71]]
 w'
 fun
 (e :
 Ending)
 (w' :
 World) =>
 ∃
 (x
 :
 Bool),
 e =
 Ending.returned
 (Value.bool
 x) ∧
 S
 w' ∧
 CallsS
 Tryd.prog
 11
 #[Value.agg
 #[Value.string
 x_72,
 Value.string
 x_73,
 Value.string
 x_74,
 Value.string
 x_75,
 Value.int
 IntKind.i64
 x_76,
 Value.int
 IntKind.i64
 x_77,
 Value.string
 x_78,
 Value.slice
 p_5
 n_11
 c_5,
 Value.string
 x_79]]
 w'
 fun
 (e :
 Ending)
 (w' :
 World) =>
 ∃
 (x_88
 :
 ByteArray),
 ∃
 (x_89
 :
 ByteArray),
 ∃
 (x_90
 :
 ByteArray),
 ∃
 (x_91
 :
 ByteArray),
 ∃
 (x_92
 :
 Int),
 ∃
 (x_93
 :
 Int),
 ∃
 (x_94
 :
 ByteArray),
 ∃
 (p
 :
 Option
 Addr),
 ∃
 (n
 :
 Nat),
 ∃
 (c
 :
 Nat),
 ∃
 (x_95
 :
 ByteArray),
 e =
 Ending.returned
 (Value.agg
 #[Value.string
 x_88,
 Value.string
 x_89,
 Value.string
 x_90,
 Value.string
 x_91,
 Value.int
 IntKind.i64
 x_92,
 Value.int
 IntKind.i64
 x_93,
 Value.string
 x_94,
 Value.slice
 p
 n
 c,
 Value.string
 x_95]) ∧
 S
 w' ∧
 CallsS
 Tryd.prog
 11
 #[Value.agg
 #[Value.string
 x_80,
 Value.string
 x_81,
 Value.string
 x_82,
 Value.string
 x_83,
 Value.int
 IntKind.i64
 x_84,
 Value.int
 IntKind.i64
 x_85,
 Value.string
 x_86,
 Value.slice
 p_6
 n_12
 c_6,
 Value.string
 x_87]]
 w'
 fun
 (e :
 Ending)
 (w' :
 World) =>
 ∃
 (x_96
 :
 ByteArray),
 ∃
 (x_97
 :
 ByteArray),
 ∃
 (x_98
 :
 ByteArray),
 ∃
 (x_99
 :
 ByteArray),
 ∃
 (x_100
 :
 Int),
 ∃
 (x_101
 :
 Int),
 ∃
 (x_102
 :
 ByteArray),
 ∃
 (p_7
 :
 Option
 Addr),
 ∃
 (n_13
 :
 Nat),
 ∃
 (c_7
 :
 Nat),
 ∃
 (x_103
 :
 ByteArray),
 e =
 Ending.returned
 (Value.agg
 #[Value.string
 x_96,
 Value.string
 x_97,
 Value.string
 x_98,
 Value.string
 x_99,
 Value.int
 IntKind.i64
 x_100,
 Value.int
 IntKind.i64
 x_101,
 Value.string
 x_102,
 Value.slice
 p_7
 n_13
 c_7,
 Value.string
 x_103]) ∧
 S
 w' ∧
 CallsS
 Tryd.prog
 12
 #[Value.agg
 #[Value.string
 x_88,
 Value.string
 x_89,
 Value.string
 x_90,
 Value.string
 x_91,
 Value.int
 IntKind.i64
 x_92,
 Value.int
 IntKind.i64
 x_93,
 Value.string
 x_94,
 Value.slice
 p
 n
 c,
 Value.string
 x_95],
 Value.agg
 #[Value.string
 x_96,
 Value.string
 x_97,
 Value.string
 x_98,
 Value.string
 x_99,
 Value.int
 IntKind.i64
 x_100,
 Value.int
 IntKind.i64
 x_101,
 Value.string
 x_102,
 Value.slice
 p_7
 n_13
 c_7,
 Value.string
 x_103]]
 w'
 fun
 (e :
 Ending)
 (w' :
 World) =>
 ∃
 (x_104
 :
 Bool),
 e =
 Ending.returned
 (Value.bool
 x_104) ∧
 S
 w' ∧
 ∃
 (x_105
 :
 ByteArray),
 ∃
 (x_106
 :
 ByteArray),
 ∃
 (x_107
 :
 ByteArray),
 ∃
 (x_108
 :
 ByteArray),
 ∃
 (x_109
 :
 Int),
 ∃
 (x_110
 :
 Int),
 ∃
 (x_111
 :
 ByteArray),
 ∃
 (p
 :
 Option
 Addr),
 ∃
 (n
 :
 Nat),
 ∃
 (c
 :
 Nat),
 ∃
 (x_112
 :
 ByteArray),
 gimp
 (true &&
 x ==
 x_104)
 (∀
 (w' :
 World),
 S
 w' →
 AtL
 w'
 n_5
 0
 [Value.string
 x_105,
 Value.string
 x_106,
 Value.string
 x_107,
 Value.string
 x_108,
 Value.int
 IntKind.i64
 x_109,
 Value.int
 IntKind.i64
 x_110,
 Value.string
 x_111,
 Value.slice
 p
 n
 c,
 Value.string
 x_112]) ∧
 ∃
 (x_113
 :
 ByteArray),
 ∃
 (x_114
 :
 ByteArray),
 ∃
 (x_115
 :
 ByteArray),
 ∃
 (x_116
 :
 ByteArray),
 ∃
 (x_117
 :
 Int),
 ∃
 (x_118
 :
 Int),
 ∃
 (x_119
 :
 ByteArray),
 ∃
 (p_8
 :
 Option
 Addr),
 ∃
 (n_14
 :
 Nat),
 ∃
 (c_8
 :
 Nat),
 ∃
 (x_120
 :
 ByteArray),
 gimp
 (true &&
 x ==
 x_104)
 (∀
 (w' :
 World),
 S
 w' →
 AtL
 w'
 n_1
 0
 [Value.string
 x_113,
 Value.string
 x_114,
 Value.string
 x_115,
 Value.string
 x_116,
 Value.int
 IntKind.i64
 x_117,
 Value.int
 IntKind.i64
 x_118,
 Value.string
 x_119,
 Value.slice
 p_8
 n_14
 c_8,
 Value.string
 x_120]) ∧
 bsp
 (true &&
 x ==
 x_104)
 (CallsS
 Tryd.prog
 8
 #[Value.agg
 #[Value.string
 x_113,
 Value.string
 x_114,
 Value.string
 x_115,
 Value.string
 x_116,
 Value.int
 IntKind.i64
 x_117,
 Value.int
 IntKind.i64
 x_118,
 Value.string
 x_119,
 Value.slice
 p_8
 n_14
 c_8,
 Value.string
 x_120]]
 w'
 fun
 (e :
 Ending)
 (w' :
 World) =>
 ∃
 (x
 :
 ByteArray),
 ∃
 (x_121
 :
 ByteArray),
 ∃
 (x_122
 :
 ByteArray),
 ∃
 (x_123
 :
 ByteArray),
 ∃
 (x_124
 :
 Int),
 ∃
 (x_125
 :
 Int),
 ∃
 (x_126
 :
 ByteArray),
 ∃
 (p_9
 :
 Option
 Addr),
 ∃
 (n_15
 :
 Nat),
 ∃
 (c_9
 :
 Nat),
 ∃
 (x_127
 :
 ByteArray),
 e =
 Ending.returned
 (Value.agg
 #[Value.string
 x,
 Value.string
 x_121,
 Value.string
 x_122,
 Value.string
 x_123,
 Value.int
 IntKind.i64
 x_124,
 Value.int
 IntKind.i64
 x_125,
 Value.string
 x_126,
 Value.slice
 p_9
 n_15
 c_9,
 Value.string
 x_127]) ∧
 S
 w' ∧
 CallsS
 Tryd.prog
 16
 #[Value.agg
 #[Value.string
 x_105,
 Value.string
 x_106,
 Value.string
 x_107,
 Value.string
 x_108,
 Value.int
 IntKind.i64
 x_109,
 Value.int
 IntKind.i64
 x_110,
 Value.string
 x_111,
 Value.slice
 p
 n
 c,
 Value.string
 x_112],
 Value.agg
 #[Value.string
 x,
 Value.string
 x_121,
 Value.string
 x_122,
 Value.string
 x_123,
 Value.int
 IntKind.i64
 x_124,
 Value.int
 IntKind.i64
 x_125,
 Value.string
 x_126,
 Value.slice
 p_9
 n_15
 c_9,
 Value.string
 x_127]]
 w'
 fun
 (e :
 Ending)
 (w' :
 World) =>
 ∃
 (x
 :
 Bool),
 e =
 Ending.returned
 (Value.bool
 x) ∧
 KeptL
 [n_2,
 n_1]
 W
 w' ∧
 R
 (Ending.returned
 (Value.bool
 (true &&
 x)))
 w')
 (S
 w' ∧
 KeptL
 [n_2,
 n_1]
 W
 w' ∧
 R
 (Ending.returned
 (Value.bool
 false))
 w'))
 (S
 w' ∧
 S
 w' ∧
 S
 w' ∧
 S
 w' ∧
 ∃
 (x
 :
 ByteArray),
 ∃
 (x
 :
 ByteArray),
 ∃
 (x
 :
 ByteArray),
 ∃
 (x
 :
 ByteArray),
 ∃
 (x
 :
 Int),
 ∃
 (x
 :
 Int),
 ∃
 (x
 :
 ByteArray),
 ∃
 (p
 :
 Option
 Addr),
 ∃
 (n
 :
 Nat),
 ∃
 (c
 :
 Nat),
 ∃
 (x
 :
 ByteArray),
 True ∧
 ∃
 (x
 :
 ByteArray),
 ∃
 (x
 :
 ByteArray),
 ∃
 (x
 :
 ByteArray),
 ∃
 (x
 :
 ByteArray),
 ∃
 (x
 :
 Int),
 ∃
 (x
 :
 Int),
 ∃
 (x
 :
 ByteArray),
 ∃
 (p
 :
 Option
 Addr),
 ∃
 (n
 :
 Nat),
 ∃
 (c
 :
 Nat),
 ∃
 (x
 :
 ByteArray),
 True ∧
 S
 w' ∧
 KeptL
 [n_2,
 n_1]
 W
 w' ∧
 R
 (Ending.returned
 (Value.bool
 false))
 w'))
 (S w' ∧
 S w' ∧
 S w' ∧
 ∃ (x :
 ByteArray),
 ∃ (x :
 ByteArray),
 ∃ (x :
 ByteArray),
 ∃ (x :
 ByteArray),
 ∃ (x :
 Int),
 ∃ (x :
 Int),
 ∃ (x :
 ByteArray),
 ∃ (p
 :
 Option
 Addr),
 ∃ (n
 :
 Nat),
 ∃
 (c
 :
 Nat),
 ∃
 (x
 :
 ByteArray),
 True ∧
 ∃
 (x
 :
 ByteArray),
 ∃
 (x
 :
 ByteArray),
 ∃
 (x
 :
 ByteArray),
 ∃
 (x
 :
 ByteArray),
 ∃
 (x
 :
 Int),
 ∃
 (x
 :
 Int),
 ∃
 (x
 :
 ByteArray),
 ∃
 (p
 :
 Option
 Addr),
 ∃
 (n
 :
 Nat),
 ∃
 (c
 :
 Nat),
 ∃
 (x
 :
 ByteArray),
 True ∧
 ∃
 (x
 :
 ByteArray),
 ∃
 (x
 :
 ByteArray),
 ∃
 (x
 :
 ByteArray),
 ∃
 (x
 :
 ByteArray),
 ∃
 (x
 :
 Int),
 ∃
 (x
 :
 Int),
 ∃
 (x
 :
 ByteArray),
 ∃
 (p
 :
 Option
 Addr),
 ∃
 (n
 :
 Nat),
 ∃
 (c
 :
 Nat),
 ∃
 (x
 :
 ByteArray),
 True ∧
 ∃
 (x
 :
 ByteArray),
 ∃
 (x
 :
 ByteArray),
 ∃
 (x
 :
 ByteArray),
 ∃
 (x
 :
 ByteArray),
 ∃
 (x
 :
 Int),
 ∃
 (x
 :
 Int),
 ∃
 (x
 :
 ByteArray),
 ∃
 (p
 :
 Option
 Addr),
 ∃
 (n
 :
 Nat),
 ∃
 (c
 :
 Nat),
 ∃
 (x
 :
 ByteArray),
 True ∧
 S
 w' ∧
 S
 w' ∧
 S
 w' ∧
 S
 w' ∧
 ∃
 (x
 :
 ByteArray),
 ∃
 (x
 :
 ByteArray),
 ∃
 (x
 :
 ByteArray),
 ∃
 (x
 :
 ByteArray),
 ∃
 (x
 :
 Int),
 ∃
 (x
 :
 Int),
 ∃
 (x
 :
 ByteArray),
 ∃
 (p
 :
 Option
 Addr),
 ∃
 (n
 :
 Nat),
 ∃
 (c
 :
 Nat),
 ∃
 (x
 :
 ByteArray),
 True ∧
 ∃
 (x
 :
 ByteArray),
 ∃
 (x
 :
 ByteArray),
 ∃
 (x
 :
 ByteArray),
 ∃
 (x
 :
 ByteArray),
 ∃
 (x
 :
 Int),
 ∃
 (x
 :
 Int),
 ∃
 (x
 :
 ByteArray),
 ∃
 (p
 :
 Option
 Addr),
 ∃
 (n
 :
 Nat),
 ∃
 (c
 :
 Nat),
 ∃
 (x
 :
 ByteArray),
 True ∧
 S
 w' ∧
 KeptL
 [n_2,
 n_1]
 W
 w' ∧
 R
 (Ending.returned
 (Value.bool
 false))
 w')) ∧
 ∀ (n_7 : Nat) (w1 : World),
 NewB w'
 (Obj.cells
 #[Value.string (ByteArray.mk #[]), Value.string (ByteArray.mk #[]),
 Value.string (ByteArray.mk #[]), Value.string (ByteArray.mk #[]),
 Value.int IntKind.i64 0, Value.int IntKind.i64 0,
 Value.string (ByteArray.mk #[]), Value.slice none 0 0,
 Value.string (ByteArray.mk #[])]
 29)
 n_7 w1 →
 S w1 ∧
 CallsS Tryd.prog 8
 #[Value.agg
 #[Value.string x_8, Value.string x_9, Value.string x_10,
 Value.string x_11, Value.int IntKind.i64 x_12,
 Value.int IntKind.i64 x_13, Value.string x_14,
 Value.slice p_1 n_4 c_1, Value.string x_15]]
 w1 fun (e : Ending) (w' : World) =>
 ∃ (x_23 : ByteArray),
 ∃ (x_24 : ByteArray),
 ∃ (x_25 : ByteArray),
 ∃ (x_26 : ByteArray),
 ∃ (x_27 : Int),
 ∃ (x_28 : Int),
 ∃ (x_29 : ByteArray),
 ∃ (p_2 : Option Addr),
 ∃ (n_8 : Nat),
 ∃ (c_2 : Nat),
 ∃ (x_30 : ByteArray),
 e =
 Ending.returned
 (Value.agg
 #[Value.string x_23, Value.string x_24,
 Value.string x_25, Value.string x_26,
 Value.int IntKind.i64 x_27,
 Value.int IntKind.i64 x_28, Value.string x_29,
 Value.slice p_2 n_8 c_2, Value.string x_30]) ∧
 WrL w' n_5 0 9 ∧
 ∀ (w1 : World),
 PutB w' n_5 0
 [Value.string x, Value.string x_16,
 Value.string x_17, Value.string x_18,
 Value.int IntKind.i64 x_19,
 Value.int IntKind.i64 x_20, Value.string x_21,
 Value.slice p n_6 c, Value.string x_22]
 w1 →
 WrL w1 n_7 0 9 ∧
 ∀ (w1_1 : World),
 PutB w1 n_7 0
 [Value.string x_23, Value.string x_24,
 Value.string x_25, Value.string x_26,
 Value.int IntKind.i64 x_27,
 Value.int IntKind.i64 x_28, Value.string x_29,
 Value.slice p_2 n_8 c_2, Value.string x_30]
 w1_1 →
 KeptL [n_2, n_1] W w1_1 ∧
 ∀ (W : World),
 Loc w.heap.size
 [Blk.mk n_2 26
 [Value.string fuy, Value.string fsy,
 Value.string tuy, Value.string tsy,
 Value.int IntKind.i64 ny,
 Value.int IntKind.i64 dy,
 Value.string sjy, Value.slice hpy hny hcy,
 Value.string bdy]
 0,
 Blk.mk n_1 26
 [Value.string fu, Value.string fs,
 Value.string tu, Value.string ts,
 Value.int IntKind.i64 n,
 Value.int IntKind.i64 d, Value.string sj,
 Value.slice hp hn hc, Value.string bd]
 0]
 w1_1 W →
 ∃ (S : World → Prop),
 S W ∧
 CallsS Tryd.prog 13 #[] W
 fun (e : Ending) (w' : World) =>
 ∃ (x : Bool),
 e = Ending.returned (Value.bool x) ∧
 S w' ∧
 ∃ (x_31 : ByteArray),
 ∃ (x_32 : ByteArray),
 ∃ (x_33 : ByteArray),
 ∃ (x_34 : ByteArray),
 ∃ (x_35 : Int),
 ∃ (x_36 : Int),
 ∃ (x_37 : ByteArray),
 ∃ (p : Option Addr),
 ∃ (n : Nat),
 ∃ (c : Nat),
 ∃ (x_38 : ByteArray),
 gimp x
 (∀ (w' : World),
 S w' →
 AtL w' n_5 0
 [Value.string x_31,
 Value.string x_32,
 Value.string x_33,
 Value.string x_34,
 Value.int IntKind.i64
 x_35,
 Value.int IntKind.i64
 x_36,
 Value.string x_37,
 Value.slice p n c,
 Value.string x_38]) ∧
 ∃ (x_39 : ByteArray),
 ∃ (x_40 : ByteArray),
 ∃ (x_41 : ByteArray),
 ∃ (x_42 : ByteArray),
 ∃ (x_43 : Int),
 ∃ (x_44 : Int),
 ∃ (x_45 : ByteArray),
 ∃ (p_3 :
 Option Addr),
 ∃ (n_9 : Nat),
 ∃ (c_3 : Nat),
 ∃ (x_46 :
 ByteArray),
 gimp x
 (∀
 (w' : World),
 S w' →
 AtL w' n_5 0
 [Value.string
 x_39,
 Value.string
 x_40,
 Value.string
 x_41,
 Value.string
 x_42,
 Value.int
 IntKind.i64
 x_43,
 Value.int
 IntKind.i64
 x_44,
 Value.string
 x_45,
 Value.slice
 p_3 n_9
 c_3,
 Value.string
 x_46]) ∧
 bsp x
 (CallsS
 Tryd.prog 14
 #[Value.agg
 #[Value.string
 x_31,
 Value.string
 x_32,
 Value.string
 x_33,
 Value.string
 x_34,
 Value.int
 IntKind.i64
 x_35,
 Value.int
 IntKind.i64
 x_36,
 Value.string
 x_37,
 Value.slice
 p n c,
 Value.string
 x_38]]
 w'
 fun
 (e : Ending)
 (w' :
 World) =>
 ∃ (x : Int),
 e =
 Ending.returned
 (Value.int
 IntKind.i64
 x) ∧
 S w' ∧
 CallsS
 Tryd.prog
 11
 #[Value.agg
 #[Value.string
 x_39,
 Value.string
 x_40,
 Value.string
 x_41,
 Value.string
 x_42,
 Value.int
 IntKind.i64
 x_43,
 Value.int
 IntKind.i64
 x_44,
 Value.string
 x_45,
 Value.slice
 p_3
 n_9
 c_3,
 Value.string
 x_46]]
 w'
 fun
 (e :
 Ending)
 (w' :
 World) =>
 ∃ (x_47 :
 ByteArray),
 ∃ (x_48 :
 ByteArray),
 ∃ (x_49
 :
 ByteArray),
 ∃ (x_50
 :
 ByteArray),
 ∃
 (x_51
 :
 Int),
 ∃
 (x_52
 :
 Int),
 ∃
 (x_53
 :
 ByteArray),
 ∃
 (p
 :
 Option
 Addr),
 ∃
 (n
 :
 Nat),
 ∃
 (c
 :
 Nat),
 ∃
 (x_54
 :
 ByteArray),
 e =
 Ending.returned
 (Value.agg
 #[Value.string
 x_47,
 Value.string
 x_48,
 Value.string
 x_49,
 Value.string
 x_50,
 Value.int
 IntKind.i64
 x_51,
 Value.int
 IntKind.i64
 x_52,
 Value.string
 x_53,
 Value.slice
 p
 n
 c,
 Value.string
 x_54]) ∧
 S
 w' ∧
 CallsS
 Tryd.prog
 15
 #[Value.agg
 #[Value.string
 x_47,
 Value.string
 x_48,
 Value.string
 x_49,
 Value.string
 x_50,
 Value.int
 IntKind.i64
 x_51,
 Value.int
 IntKind.i64
 x_52,
 Value.string
 x_53,
 Value.slice
 p
 n
 c,
 Value.string
 x_54]]
 w'
 fun
 (e :
 Ending)
 (w' :
 World) =>
 ∃
 (x_55
 :
 Int),
 e =
 Ending.returned
 (Value.int
 IntKind.i64
 x_55) ∧
 S
 w' ∧
 ∃
 (x_56
 :
 ByteArray),
 ∃
 (x_57
 :
 ByteArray),
 ∃
 (x_58
 :
 ByteArray),
 ∃
 (x_59
 :
 ByteArray),
 ∃
 (x_60
 :
 Int),
 ∃
 (x_61
 :
 Int),
 ∃
 (x_62
 :
 ByteArray),
 ∃
 (p
 :
 Option
 Addr),
 ∃
 (n
 :
 Nat),
 ∃
 (c
 :
 Nat),
 ∃
 (x_63
 :
 ByteArray),
 gimp
 (true &&
 x ==
 x_55)
 (∀
 (w' :
 World),
 S
 w' →
 AtL
 w'
 n_5
 0
 [Value.string
 x_56,
 Value.string
 x_57,
 Value.string
 x_58,
 Value.string
 x_59,
 Value.int
 IntKind.i64
 x_60,
 Value.int
 IntKind.i64
 x_61,
 Value.string
 x_62,
 Value.slice
 p
 n
 c,
 Value.string
 x_63]) ∧
 ∃
 (x_64
 :
 ByteArray),
 ∃
 (x_65
 :
 ByteArray),
 ∃
 (x_66
 :
 ByteArray),
 ∃
 (x_67
 :
 ByteArray),
 ∃
 (x_68
 :
 Int),
 ∃
 (x_69
 :
 Int),
 ∃
 (x_70
 :
 ByteArray),
 ∃
 (p_4
 :
 Option
 Addr),
 ∃
 (n_10
 :
 Nat),
 ∃
 (c_4
 :
 Nat),
 ∃
 (x_71
 :
 ByteArray),
 gimp
 (true &&
 x ==
 x_55)
 (∀
 (w' :
 World),
 S
 w' →
 AtL
 w'
 n_7
 0
 [Value.string
 x_64,
 Value.string
 x_65,
 Value.string
 x_66,
 Value.string
 x_67,
 Value.int
 IntKind.i64
 x_68,
 Value.int
 IntKind.i64
 x_69,
 Value.string
 x_70,
 Value.slice
 p_4
 n_10
 c_4,
 Value.string
 x_71]) ∧
 ∃
 (x_72
 :
 ByteArray),
 ∃
 (x_73
 :
 ByteArray),
 ∃
 (x_74
 :
 ByteArray),
 ∃
 (x_75
 :
 ByteArray),
 ∃
 (x_76
 :
 Int),
 ∃
 (x_77
 :
 Int),
 ∃
 (x_78
 :
 ByteArray),
 ∃
 (p_5
 :
 Option
 Addr),
 ∃
 (n_11
 :
 Nat),
 ∃
 (c_5
 :
 Nat),
 ∃
 (x_79
 :
 ByteArray),
 gimp
 (true &&
 x ==
 x_55)
 (∀
 (w' :
 World),
 S
 w' →
 AtL
 w'
 n_5
 0
 [Value.string
 x_72,
 Value.string
 x_73,
 Value.string
 x_74,
 Value.string
 x_75,
 Value.int
 IntKind.i64
 x_76,
 Value.int
 IntKind.i64
 x_77,
 Value.string
 x_78,
 Value.slice
 p_5
 n_11
 c_5,
 Value.string
 x_79]) ∧
 ∃
 (x_80
 :
 ByteArray),
 ∃
 (x_81
 :
 ByteArray),
 ∃
 (x_82
 :
 ByteArray),
 ∃
 (x_83
 :
 ByteArray),
 ∃
 (x_84
 :
 Int),
 ∃
 (x_85
 :
 Int),
 ∃
 (x_86
 :
 ByteArray),
 ∃
 (p_6
 :
 Option
 Addr),
 ∃
 (n_12
 :
 Nat),
 ∃
 (c_6
 :
 Nat),
 ∃
 (x_87
 :
 ByteArray),
 gimp
 (true &&
 x ==
 x_55)
 (∀
 (w' :
 World),
 S
 w' →
 AtL
 w'
 n_7
 0
 [Value.string
 x_80,
 Value.string
 x_81,
 Value.string
 x_82,
 Value.string
 x_83,
 Value.int
 IntKind.i64
 x_84,
 Value.int
 IntKind.i64
 x_85,
 Value.string
 x_86,
 Value.slice
 p_6
 n_12
 c_6,
 Value.string
 x_87]) ∧
 bsp
 (true &&
 x ==
 x_55)
 (CallsS
 Tryd.prog
 16
 #[Value.agg
 #[Value.string
 x_56,
 Value.string
 x_57,
 Value.string
 x_58,
 Value.string
 x_59,
 Value.int
 IntKind.i64
 x_60,
 Value.int
 IntKind.i64
 x_61,
 Value.string
 x_62,
 Value.slice
 p
 n
 c,
 Value.string
 x_63],
 Value.agg
 #[Value.string
 x_64,
 Value.string
 x_65,
 Value.string
 x_66,
 Value.string
 x_67,
 Value.int
 IntKind.i64
 x_68,
 Value.int
 IntKind.i64
 x_69,
 Value.string
 x_70,
 Value.slice
 p_4
 n_10
 c_4,
 Value.string
 x_71]]
 w'
 fun
 (e :
 Ending)
 (w' :
 World) =>
 ∃
 (x
 :
 Bool),
 e =
 Ending.returned
 (Value.bool
 x) ∧
 S
 w' ∧
 CallsS
 Tryd.prog
 11
 #[Value.agg
 #[Value.string
 x_72,
 Value.string
 x_73,
 Value.string
 x_74,
 Value.string
 x_75,
 Value.int
 IntKind.i64
 x_76,
 Value.int
 IntKind.i64
 x_77,
 Value.string
 x_78,
 Value.slice
 p_5
 n_11
 c_5,
 Value.string
 x_79]]
 w'
 fun
 (e :
 Ending)
 (w' :
 World) =>
 ∃
 (x_88
 :
 ByteArray),
 ∃
 (x_89
 :
 ByteArray),
 ∃
 (x_90
 :
 ByteArray),
 ∃
 (x_91
 :
 ByteArray),
 ∃
 (x_92
 :
 Int),
 ∃
 (x_93
 :
 Int),
 ∃
 (x_94
 :
 ByteArray),
 ∃
 (p
 :
 Option
 Addr),
 ∃
 (n
 :
 Nat),
 ∃
 (c
 :
 Nat),
 ∃
 (x_95
 :
 ByteArray),
 e =
 Ending.returned
 (Value.agg
 #[Value.string
 x_88,
 Value.string
 x_89,
 Value.string
 x_90,
 Value.string
 x_91,
 Value.int
 IntKind.i64
 x_92,
 Value.int
 IntKind.i64
 x_93,
 Value.string
 x_94,
 Value.slice
 p
 n
 c,
 Value.string
 x_95]) ∧
 S
 w' ∧
 CallsS
 Tryd.prog
 11
 #[Value.agg
 #[Value.string
 x_80,
 Value.string
 x_81,
 Value.string
 x_82,
 Value.string
 x_83,
 Value.int
 IntKind.i64
 x_84,
 Value.int
 IntKind.i64
 x_85,
 Value.string
 x_86,
 Value.slice
 p_6
 n_12
 c_6,
 Value.string
 x_87]]
 w'
 fun
 (e :
 Ending)
 (w' :
 World) =>
 ∃
 (x_96
 :
 ByteArray),
 ∃
 (x_97
 :
 ByteArray),
 ∃
 (x_98
 :
 ByteArray),
 ∃
 (x_99
 :
 ByteArray),
 ∃
 (x_100
 :
 Int),
 ∃
 (x_101
 :
 Int),
 ∃
 (x_102
 :
 ByteArray),
 ∃
 (p_7
 :
 Option
 Addr),
 ∃
 (n_13
 :
 Nat),
 ∃
 (c_7
 :
 Nat),
 ∃
 (x_103
 :
 ByteArray),
 e =
 Ending.returned
 (Value.agg
 #[Value.string
 x_96,
 Value.string
 x_97,
 Value.string
 x_98,
 Value.string
 x_99,
 Value.int
 IntKind.i64
 x_100,
 Value.int
 IntKind.i64
 x_101,
 Value.string
 x_102,
 Value.slice
 p_7
 n_13
 c_7,
 Value.string
 x_103]) ∧
 S
 w' ∧
 CallsS
 Tryd.prog
 12
 #[Value.agg
 #[Value.string
 x_88,
 Value.string
 x_89,
 Value.string
 x_90,
 Value.string
 x_91,
 Value.int
 IntKind.i64
 x_92,
 Value.int
 IntKind.i64
 x_93,
 Value.string
 x_94,
 Value.slice
 p
 n
 c,
 Value.string
 x_95],
 Value.agg
 #[Value.string
 x_96,
 Value.string
 x_97,
 Value.string
 x_98,
 Value.string
 x_99,
 Value.int
 IntKind.i64
 x_100,
 Value.int
 IntKind.i64
 x_101,
 Value.string
 x_102,
 Value.slice
 p_7
 n_13
 c_7,
 Value.string
 x_103]]
 w'
 fun
 (e :
 Ending)
 (w' :
 World) =>
 ∃
 (x_104
 :
 Bool),
 e =
 Ending.returned
 (Value.bool
 x_104) ∧
 S
 w' ∧
 ∃
 (x_105
 :
 ByteArray),
 ∃
 (x_106
 :
 ByteArray),
 ∃
 (x_107
 :
 ByteArray),
 ∃
 (x_108
 :
 ByteArray),
 ∃
 (x_109
 :
 Int),
 ∃
 (x_110
 :
 Int),
 ∃
 (x_111
 :
 ByteArray),
 ∃
 (p
 :
 Option
 Addr),
 ∃
 (n
 :
 Nat),
 ∃
 (c
 :
 Nat),
 ∃
 (x_112
 :
 ByteArray),
 gimp
 (true &&
 x ==
 x_104)
 (∀
 (w' :
 World),
 S
 w' →
 AtL
 w'
 n_5
 0
 [Value.string
 x_105,
 Value.string
 x_106,
 Value.string
 x_107,
 Value.string
 x_108,
 Value.int
 IntKind.i64
 x_109,
 Value.int
 IntKind.i64
 x_110,
 Value.string
 x_111,
 Value.slice
 p
 n
 c,
 Value.string
 x_112]) ∧
 ∃
 (x_113
 :
 ByteArray),
 ∃
 (x_114
 :
 ByteArray),
 ∃
 (x_115
 :
 ByteArray),
 ∃
 (x_116
 :
 ByteArray),
 ∃
 (x_117
 :
 Int),
 ∃
 (x_118
 :
 Int),
 ∃
 (x_119
 :
 ByteArray),
 ∃
 (p_8
 :
 Option
 Addr),
 ∃
 (n_14
 :
 Nat),
 ∃
 (c_8
 :
 Nat),
 ∃
 (x_120
 :
 ByteArray),
 gimp
 (true &&
 x ==
 x_104)
 (∀
 (w' :
 World),
 S
 w' →
 AtL
 w'
 n_1
 0
 [Value.string
 x_113,
 Value.string
 x_114,
 Value.string
 x_115,
 Value.string
 x_116,
 Value.int
 IntKind.i64
 x_117,
 Value.int
 IntKind.i64
 x_118,
 Value.string
 x_119,
 Value.slice
 p_8
 n_14
 c_8,
 Value.string
 x_120]) ∧
 bsp
 (true &&
 x ==
 x_104)
 (CallsS
 Tryd.prog
 8
 #[Value.agg
 #[Value.string
 x_113,
 Value.string
 x_114,
 Value.string
 x_115,
 Value.string
 x_116,
 Value.int
 IntKind.i64
 x_117,
 Value.int
 IntKind.i64
 x_118,
 Value.string
 x_119,
 Value.slice
 p_8
 n_14
 c_8,
 Value.string
 x_120]]
 w'
 fun
 (e :
 Ending)
 (w' :
 World) =>
 ∃
 (x
 :
 ByteArray),
 ∃
 (x_121
 :
 ByteArray),
 ∃
 (x_122
 :
 ByteArray),
 ∃
 (x_123
 :
 ByteArray),
 ∃
 (x_124
 :
 Int),
 ∃
 (x_125
 :
 Int),
 ∃
 (x_126
 :
 ByteArray),
 ∃
 (p_9
 :
 Option
 Addr),
 ∃
 (n_15
 :
 Nat),
 ∃
 (c_9
 :
 Nat),
 ∃
 (x_127
 :
 ByteArray),
 e =
 Ending.returned
 (Value.agg
 #[Value.string
 x,
 Value.string
 x_121,
 Value.string
 x_122,
 Value.string
 x_123,
 Value.int
 IntKind.i64
 x_124,
 Value.int
 IntKind.i64
 x_125,
 Value.string
 x_126,
 Value.slice
 p_9
 n_15
 c_9,
 Value.string
 x_127]) ∧
 S
 w' ∧
 CallsS
 Tryd.prog
 16
 #[Value.agg
 #[Value.string
 x_105,
 Value.string
 x_106,
 Value.string
 x_107,
 Value.string
 x_108,
 Value.int
 IntKind.i64
 x_109,
 Value.int
 IntKind.i64
 x_110,
 Value.string
 x_111,
 Value.slice
 p
 n
 c,
 Value.string
 x_112],
 Value.agg
 #[Value.string
 x,
 Value.string
 x_121,
 Value.string
 x_122,
 Value.string
 x_123,
 Value.int
 IntKind.i64
 x_124,
 Value.int
 IntKind.i64
 x_125,
 Value.string
 x_126,
 Value.slice
 p_9
 n_15
 c_9,
 Value.string
 x_127]]
 w'
 fun
 (e :
 Ending)
 (w' :
 World) =>
 ∃
 (x
 :
 Bool),
 e =
 Ending.returned
 (Value.bool
 x) ∧
 KeptL
 [n_2,
 n_1]
 W
 w' ∧
 R
 (Ending.returned
 (Value.bool
 (true &&
 x)))
 w')
 (S
 w' ∧
 KeptL
 [n_2,
 n_1]
 W
 w' ∧
 R
 (Ending.returned
 (Value.bool
 false))
 w'))
 (S
 w' ∧
 S
 w' ∧
 S
 w' ∧
 S
 w' ∧
 ∃
 (x
 :
 ByteArray),
 ∃
 (x
 :
 ByteArray),
 ∃
 (x
 :
 ByteArray),
 ∃
 (x
 :
 ByteArray),
 ∃
 (x
 :
 Int),
 ∃
 (x
 :
 Int),
 ∃
 (x
 :
 ByteArray),
 ∃
 (p
 :
 Option
 Addr),
 ∃
 (n
 :
 Nat),
 ∃
 (c
 :
 Nat),
 ∃
 (x
 :
 ByteArray),
 True ∧
 ∃
 (x
 :
 ByteArray),
 ∃
 (x
 :
 ByteArray),
 ∃
 (x
 :
 ByteArray),
 ∃
 (x
 :
 ByteArray),
 ∃
 (x
 :
 Int),
 ∃
 (x
 :
 Int),
 ∃
 (x
 :
 ByteArray),
 ∃
 (p
 :
 Option
 Addr),
 ∃
 (n
 :
 Nat),
 ∃
 (c
 :
 Nat),
 ∃
 (x
 :
 ByteArray),
 True ∧
 S
 w' ∧
 KeptL
 [n_2,
 n_1]
 W
 w' ∧
 R
 (Ending.returned
 (Value.bool
 false))
 w'))
 (S w' ∧
 S w' ∧
 S w' ∧
 ∃ (x :
 ByteArray),
 ∃ (x :
 ByteArray),
 ∃ (x :
 ByteArray),
 ∃ (x :
 ByteArray),
 ∃ (x :
 Int),
 ∃ (x :
 Int),
 ∃ (x :
 ByteArray),
 ∃ (p
 :
 Option
 Addr),
 ∃ (n
 :
 Nat),
 ∃
 (c
 :
 Nat),
 ∃
 (x
 :
 ByteArray),
 True ∧
 ∃
 (x
 :
 ByteArray),
 ∃
 (x
 :
 ByteArray),
 ∃
 (x
 :
 ByteArray),
 ∃
 (x
 :
 ByteArray),
 ∃
 (x
 :
 Int),
 ∃
 (x
 :
 Int),
 ∃
 (x
 :
 ByteArray),
 ∃
 (p
 :
 Option
 Addr),
 ∃
 (n
 :
 Nat),
 ∃
 (c
 :
 Nat),
 ∃
 (x
 :
 ByteArray),
 True ∧
 ∃
 (x
 :
 ByteArray),
 ∃
 (x
 :
 ByteArray),
 ∃
 (x
 :
 ByteArray),
 ∃
 (x
 :
 ByteArray),
 ∃
 (x
 :
 Int),
 ∃
 (x
 :
 Int),
 ∃
 (x
 :
 ByteArray),
 ∃
 (p
 :
 Option
 Addr),
 ∃
 (n
 :
 Nat),
 ∃
 (c
 :
 Nat),
 ∃
 (x
 :
 ByteArray),
 True ∧
 ∃
 (x
 :
 ByteArray),
 ∃
 (x
 :
 ByteArray),
 ∃
 (x
 :
 ByteArray),
 ∃
 (x
 :
 ByteArray),
 ∃
 (x
 :
 Int),
 ∃
 (x
 :
 Int),
 ∃
 (x
 :
 ByteArray),
 ∃
 (p
 :
 Option
 Addr),
 ∃
 (n
 :
 Nat),
 ∃
 (c
 :
 Nat),
 ∃
 (x
 :
 ByteArray),
 True ∧
 S
 w' ∧
 S
 w' ∧
 S
 w' ∧
 S
 w' ∧
 ∃
 (x
 :
 ByteArray),
 ∃
 (x
 :
 ByteArray),
 ∃
 (x
 :
 ByteArray),
 ∃
 (x
 :
 ByteArray),
 ∃
 (x
 :
 Int),
 ∃
 (x
 :
 Int),
 ∃
 (x
 :
 ByteArray),
 ∃
 (p
 :
 Option
 Addr),
 ∃
 (n
 :
 Nat),
 ∃
 (c
 :
 Nat),
 ∃
 (x
 :
 ByteArray),
 True ∧
 ∃
 (x
 :
 ByteArray),
 ∃
 (x
 :
 ByteArray),
 ∃
 (x
 :
 ByteArray),
 ∃
 (x
 :
 ByteArray),
 ∃
 (x
 :
 Int),
 ∃
 (x
 :
 Int),
 ∃
 (x
 :
 ByteArray),
 ∃
 (p
 :
 Option
 Addr),
 ∃
 (n
 :
 Nat),
 ∃
 (c
 :
 Nat),
 ∃
 (x
 :
 ByteArray),
 True ∧
 S
 w' ∧
 KeptL
 [n_2,
 n_1]
 W
 w' ∧
 R
 (Ending.returned
 (Value.bool
 false))
 w')) ∧
 ∀ (n_6 : Nat) (w1_1 : World),
 NewB w1
 (Obj.cells
 #[Value.string (ByteArray.mk #[]), Value.string (ByteArray.mk #[]),
 Value.string (ByteArray.mk #[]), Value.string (ByteArray.mk #[]),
 Value.int IntKind.i64 0, Value.int IntKind.i64 0,
 Value.string (ByteArray.mk #[]), Value.slice none 0 0,
 Value.string (ByteArray.mk #[])]
 29)
 n_6 w1_1 →
 S w1_1 ∧
 CallsS Tryd.prog 8
 #[Value.agg
 #[Value.string x, Value.string x_1, Value.string x_2, Value.string x_3,
 Value.int IntKind.i64 x_4, Value.int IntKind.i64 x_5, Value.string x_6,
 Value.slice p n_3 c, Value.string x_7]]
 w1_1 fun (e : Ending) (w' : World) =>
 ∃ (x : ByteArray),
 ∃ (x_16 : ByteArray),
 ∃ (x_17 : ByteArray),
 ∃ (x_18 : ByteArray),
 ∃ (x_19 : Int),
 ∃ (x_20 : Int),
 ∃ (x_21 : ByteArray),
 ∃ (p : Option Addr),
 ∃ (n_7 : Nat),
 ∃ (c : Nat),
 ∃ (x_22 : ByteArray),
 e =
 Ending.returned
 (Value.agg
 #[Value.string x, Value.string x_16, Value.string x_17,
 Value.string x_18, Value.int IntKind.i64 x_19,
 Value.int IntKind.i64 x_20, Value.string x_21,
 Value.slice p n_7 c, Value.string x_22]) ∧
 S w' ∧
 CallsS Tryd.prog 8
 #[Value.agg
 #[Value.string x_8, Value.string x_9, Value.string x_10,
 Value.string x_11, Value.int IntKind.i64 x_12,
 Value.int IntKind.i64 x_13, Value.string x_14,
 Value.slice p_1 n_4 c_1, Value.string x_15]]
 w' fun (e : Ending) (w' : World) =>
 ∃ (x_23 : ByteArray),
 ∃ (x_24 : ByteArray),
 ∃ (x_25 : ByteArray),
 ∃ (x_26 : ByteArray),
 ∃ (x_27 : Int),
 ∃ (x_28 : Int),
 ∃ (x_29 : ByteArray),
 ∃ (p_2 : Option Addr),
 ∃ (n_8 : Nat),
 ∃ (c_2 : Nat),
 ∃ (x_30 : ByteArray),
 e =
 Ending.returned
 (Value.agg
 #[Value.string x_23, Value.string x_24,
 Value.string x_25, Value.string x_26,
 Value.int IntKind.i64 x_27,
 Value.int IntKind.i64 x_28, Value.string x_29,
 Value.slice p_2 n_8 c_2, Value.string x_30]) ∧
 WrL w' n_5 0 9 ∧
 ∀ (w1 : World),
 PutB w' n_5 0
 [Value.string x, Value.string x_16,
 Value.string x_17, Value.string x_18,
 Value.int IntKind.i64 x_19,
 Value.int IntKind.i64 x_20, Value.string x_21,
 Value.slice p n_7 c, Value.string x_22]
 w1 →
 WrL w1 n_6 0 9 ∧
 ∀ (w1_2 : World),
 PutB w1 n_6 0
 [Value.string x_23, Value.string x_24,
 Value.string x_25, Value.string x_26,
 Value.int IntKind.i64 x_27,
 Value.int IntKind.i64 x_28, Value.string x_29,
 Value.slice p_2 n_8 c_2, Value.string x_30]
 w1_2 →
 KeptL [n_2, n_1] W w1_2 ∧
 ∀ (W : World),
 Loc w.heap.size
 [Blk.mk n_2 26
 [Value.string fuy, Value.string fsy,
 Value.string tuy, Value.string tsy,
 Value.int IntKind.i64 ny,
 Value.int IntKind.i64 dy, Value.string sjy,
 Value.slice hpy hny hcy, Value.string bdy]
 0,
 Blk.mk n_1 26
 [Value.string fu, Value.string fs,
 Value.string tu, Value.string ts,
 Value.int IntKind.i64 n,
 Value.int IntKind.i64 d, Value.string sj,
 Value.slice hp hn hc, Value.string bd]
 0]
 w1_2 W →
 ∃ (S : World → Prop),
 S W ∧
 CallsS Tryd.prog 13 #[] W
 fun (e : Ending) (w' : World) =>
 ∃ (x : Bool),
 e = Ending.returned (Value.bool x) ∧
 S w' ∧
 ∃ (x_31 : ByteArray),
 ∃ (x_32 : ByteArray),
 ∃ (x_33 : ByteArray),
 ∃ (x_34 : ByteArray),
 ∃ (x_35 : Int),
 ∃ (x_36 : Int),
 ∃ (x_37 : ByteArray),
 ∃ (p : Option Addr),
 ∃ (n : Nat),
 ∃ (c : Nat),
 ∃ (x_38 : ByteArray),
 gimp x
 (∀ (w' : World),
 S w' →
 AtL w' n_5 0
 [Value.string x_31,
 Value.string x_32,
 Value.string x_33,
 Value.string x_34,
 Value.int IntKind.i64
 x_35,
 Value.int IntKind.i64
 x_36,
 Value.string x_37,
 Value.slice p n c,
 Value.string x_38]) ∧
 ∃ (x_39 : ByteArray),
 ∃ (x_40 : ByteArray),
 ∃ (x_41 : ByteArray),
 ∃ (x_42 : ByteArray),
 ∃ (x_43 : Int),
 ∃ (x_44 : Int),
 ∃ (x_45 : ByteArray),
 ∃ (p_3 : Option Addr),
 ∃ (n_9 : Nat),
 ∃ (c_3 : Nat),
 ∃ (x_46 :
 ByteArray),
 gimp x
 (∀ (w' : World),
 S w' →
 AtL w' n_5 0
 [Value.string
 x_39,
 Value.string
 x_40,
 Value.string
 x_41,
 Value.string
 x_42,
 Value.int
 IntKind.i64
 x_43,
 Value.int
 IntKind.i64
 x_44,
 Value.string
 x_45,
 Value.slice
 p_3 n_9
 c_3,
 Value.string
 x_46]) ∧
 bsp x
 (CallsS
 Tryd.prog 14
 #[Value.agg
 #[Value.string
 x_31,
 Value.string
 x_32,
 Value.string
 x_33,
 Value.string
 x_34,
 Value.int
 IntKind.i64
 x_35,
 Value.int
 IntKind.i64
 x_36,
 Value.string
 x_37,
 Value.slice
 p n c,
 Value.string
 x_38]]
 w'
 fun
 (e : Ending)
 (w' :
 World) =>
 ∃ (x : Int),
 e =
 Ending.returned
 (Value.int
 IntKind.i64
 x) ∧
 S w' ∧
 CallsS
 Tryd.prog
 11
 #[Value.agg
 #[Value.string
 x_39,
 Value.string
 x_40,
 Value.string
 x_41,
 Value.string
 x_42,
 Value.int
 IntKind.i64
 x_43,
 Value.int
 IntKind.i64
 x_44,
 Value.string
 x_45,
 Value.slice
 p_3 n_9
 c_3,
 Value.string
 x_46]]
 w'
 fun
 (e :
 Ending)
 (w' :
 World) =>
 ∃ (x_47 :
 ByteArray),
 ∃ (x_48 :
 ByteArray),
 ∃ (x_49 :
 ByteArray),
 ∃ (x_50
 :
 ByteArray),
 ∃ (x_51
 :
 Int),
 ∃
 (x_52
 :
 Int),
 ∃
 (x_53
 :
 ByteArray),
 ∃ (p
 :
 Option
 Addr),
 ∃
 (n
 :
 Nat),
 ∃
 (c
 :
 Nat),
 ∃
 (x_54
 :
 ByteArray),
 e =
 Ending.returned
 (Value.agg
 #[Value.string
 x_47,
 Value.string
 x_48,
 Value.string
 x_49,
 Value.string
 x_50,
 Value.int
 IntKind.i64
 x_51,
 Value.int
 IntKind.i64
 x_52,
 Value.string
 x_53,
 Value.slice
 p
 n
 c,
 Value.string
 x_54]) ∧
 S
 w' ∧
 CallsS
 Tryd.prog
 15
 #[Value.agg
 #[Value.string
 x_47,
 Value.string
 x_48,
 Value.string
 x_49,
 Value.string
 x_50,
 Value.int
 IntKind.i64
 x_51,
 Value.int
 IntKind.i64
 x_52,
 Value.string
 x_53,
 Value.slice
 p
 n
 c,
 Value.string
 x_54]]
 w'
 fun
 (e :
 Ending)
 (w' :
 World) =>
 ∃
 (x_55
 :
 Int),
 e =
 Ending.returned
 (Value.int
 IntKind.i64
 x_55) ∧
 S
 w' ∧
 ∃
 (x_56
 :
 ByteArray),
 ∃
 (x_57
 :
 ByteArray),
 ∃
 (x_58
 :
 ByteArray),
 ∃
 (x_59
 :
 ByteArray),
 ∃
 (x_60
 :
 Int),
 ∃
 (x_61
 :
 Int),
 ∃
 (x_62
 :
 ByteArray),
 ∃
 (p
 :
 Option
 Addr),
 ∃
 (n
 :
 Nat),
 ∃
 (c
 :
 Nat),
 ∃
 (x_63
 :
 ByteArray),
 gimp
 (true &&
 x ==
 x_55)
 (∀
 (w' :
 World),
 S
 w' →
 AtL
 w'
 n_5
 0
 [Value.string
 x_56,
 Value.string
 x_57,
 Value.string
 x_58,
 Value.string
 x_59,
 Value.int
 IntKind.i64
 x_60,
 Value.int
 IntKind.i64
 x_61,
 Value.string
 x_62,
 Value.slice
 p
 n
 c,
 Value.string
 x_63]) ∧
 ∃
 (x_64
 :
 ByteArray),
 ∃
 (x_65
 :
 ByteArray),
 ∃
 (x_66
 :
 ByteArray),
 ∃
 (x_67
 :
 ByteArray),
 ∃
 (x_68
 :
 Int),
 ∃
 (x_69
 :
 Int),
 ∃
 (x_70
 :
 ByteArray),
 ∃
 (p_4
 :
 Option
 Addr),
 ∃
 (n_10
 :
 Nat),
 ∃
 (c_4
 :
 Nat),
 ∃
 (x_71
 :
 ByteArray),
 gimp
 (true &&
 x ==
 x_55)
 (∀
 (w' :
 World),
 S
 w' →
 AtL
 w'
 n_6
 0
 [Value.string
 x_64,
 Value.string
 x_65,
 Value.string
 x_66,
 Value.string
 x_67,
 Value.int
 IntKind.i64
 x_68,
 Value.int
 IntKind.i64
 x_69,
 Value.string
 x_70,
 Value.slice
 p_4
 n_10
 c_4,
 Value.string
 x_71]) ∧
 ∃
 (x_72
 :
 ByteArray),
 ∃
 (x_73
 :
 ByteArray),
 ∃
 (x_74
 :
 ByteArray),
 ∃
 (x_75
 :
 ByteArray),
 ∃
 (x_76
 :
 Int),
 ∃
 (x_77
 :
 Int),
 ∃
 (x_78
 :
 ByteArray),
 ∃
 (p_5
 :
 Option
 Addr),
 ∃
 (n_11
 :
 Nat),
 ∃
 (c_5
 :
 Nat),
 ∃
 (x_79
 :
 ByteArray),
 gimp
 (true &&
 x ==
 x_55)
 (∀
 (w' :
 World),
 S
 w' →
 AtL
 w'
 n_5
 0
 [Value.string
 x_72,
 Value.string
 x_73,
 Value.string
 x_74,
 Value.string
 x_75,
 Value.int
 IntKind.i64
 x_76,
 Value.int
 IntKind.i64
 x_77,
 Value.string
 x_78,
 Value.slice
 p_5
 n_11
 c_5,
 Value.string
 x_79]) ∧
 ∃
 (x_80
 :
 ByteArray),
 ∃
 (x_81
 :
 ByteArray),
 ∃
 (x_82
 :
 ByteArray),
 ∃
 (x_83
 :
 ByteArray),
 ∃
 (x_84
 :
 Int),
 ∃
 (x_85
 :
 Int),
 ∃
 (x_86
 :
 ByteArray),
 ∃
 (p_6
 :
 Option
 Addr),
 ∃
 (n_12
 :
 Nat),
 ∃
 (c_6
 :
 Nat),
 ∃
 (x_87
 :
 ByteArray),
 gimp
 (true &&
 x ==
 x_55)
 (∀
 (w' :
 World),
 S
 w' →
 AtL
 w'
 n_6
 0
 [Value.string
 x_80,
 Value.string
 x_81,
 Value.string
 x_82,
 Value.string
 x_83,
 Value.int
 IntKind.i64
 x_84,
 Value.int
 IntKind.i64
 x_85,
 Value.string
 x_86,
 Value.slice
 p_6
 n_12
 c_6,
 Value.string
 x_87]) ∧
 bsp
 (true &&
 x ==
 x_55)
 (CallsS
 Tryd.prog
 16
 #[Value.agg
 #[Value.string
 x_56,
 Value.string
 x_57,
 Value.string
 x_58,
 Value.string
 x_59,
 Value.int
 IntKind.i64
 x_60,
 Value.int
 IntKind.i64
 x_61,
 Value.string
 x_62,
 Value.slice
 p
 n
 c,
 Value.string
 x_63],
 Value.agg
 #[Value.string
 x_64,
 Value.string
 x_65,
 Value.string
 x_66,
 Value.string
 x_67,
 Value.int
 IntKind.i64
 x_68,
 Value.int
 IntKind.i64
 x_69,
 Value.string
 x_70,
 Value.slice
 p_4
 n_10
 c_4,
 Value.string
 x_71]]
 w'
 fun
 (e :
 Ending)
 (w' :
 World) =>
 ∃
 (x
 :
 Bool),
 e =
 Ending.returned
 (Value.bool
 x) ∧
 S
 w' ∧
 CallsS
 Tryd.prog
 11
 #[Value.agg
 #[Value.string
 x_72,
 Value.string
 x_73,
 Value.string
 x_74,
 Value.string
 x_75,
 Value.int
 IntKind.i64
 x_76,
 Value.int
 IntKind.i64
 x_77,
 Value.string
 x_78,
 Value.slice
 p_5
 n_11
 c_5,
 Value.string
 x_79]]
 w'
 fun
 (e :
 Ending)
 (w' :
 World) =>
 ∃
 (x_88
 :
 ByteArray),
 ∃
 (x_89
 :
 ByteArray),
 ∃
 (x_90
 :
 ByteArray),
 ∃
 (x_91
 :
 ByteArray),
 ∃
 (x_92
 :
 Int),
 ∃
 (x_93
 :
 Int),
 ∃
 (x_94
 :
 ByteArray),
 ∃
 (p
 :
 Option
 Addr),
 ∃
 (n
 :
 Nat),
 ∃
 (c
 :
 Nat),
 ∃
 (x_95
 :
 ByteArray),
 e =
 Ending.returned
 (Value.agg
 #[Value.string
 x_88,
 Value.string
 x_89,
 Value.string
 x_90,
 Value.string
 x_91,
 Value.int
 IntKind.i64
 x_92,
 Value.int
 IntKind.i64
 x_93,
 Value.string
 x_94,
 Value.slice
 p
 n
 c,
 Value.string
 x_95]) ∧
 S
 w' ∧
 CallsS
 Tryd.prog
 11
 #[Value.agg
 #[Value.string
 x_80,
 Value.string
 x_81,
 Value.string
 x_82,
 Value.string
 x_83,
 Value.int
 IntKind.i64
 x_84,
 Value.int
 IntKind.i64
 x_85,
 Value.string
 x_86,
 Value.slice
 p_6
 n_12
 c_6,
 Value.string
 x_87]]
 w'
 fun
 (e :
 Ending)
 (w' :
 World) =>
 ∃
 (x_96
 :
 ByteArray),
 ∃
 (x_97
 :
 ByteArray),
 ∃
 (x_98
 :
 ByteArray),
 ∃
 (x_99
 :
 ByteArray),
 ∃
 (x_100
 :
 Int),
 ∃
 (x_101
 :
 Int),
 ∃
 (x_102
 :
 ByteArray),
 ∃
 (p_7
 :
 Option
 Addr),
 ∃
 (n_13
 :
 Nat),
 ∃
 (c_7
 :
 Nat),
 ∃
 (x_103
 :
 ByteArray),
 e =
 Ending.returned
 (Value.agg
 #[Value.string
 x_96,
 Value.string
 x_97,
 Value.string
 x_98,
 Value.string
 x_99,
 Value.int
 IntKind.i64
 x_100,
 Value.int
 IntKind.i64
 x_101,
 Value.string
 x_102,
 Value.slice
 p_7
 n_13
 c_7,
 Value.string
 x_103]) ∧
 S
 w' ∧
 CallsS
 Tryd.prog
 12
 #[Value.agg
 #[Value.string
 x_88,
 Value.string
 x_89,
 Value.string
 x_90,
 Value.string
 x_91,
 Value.int
 IntKind.i64
 x_92,
 Value.int
 IntKind.i64
 x_93,
 Value.string
 x_94,
 Value.slice
 p
 n
 c,
 Value.string
 x_95],
 Value.agg
 #[Value.string
 x_96,
 Value.string
 x_97,
 Value.string
 x_98,
 Value.string
 x_99,
 Value.int
 IntKind.i64
 x_100,
 Value.int
 IntKind.i64
 x_101,
 Value.string
 x_102,
 Value.slice
 p_7
 n_13
 c_7,
 Value.string
 x_103]]
 w'
 fun
 (e :
 Ending)
 (w' :
 World) =>
 ∃
 (x_104
 :
 Bool),
 e =
 Ending.returned
 (Value.bool
 x_104) ∧
 S
 w' ∧
 ∃
 (x_105
 :
 ByteArray),
 ∃
 (x_106
 :
 ByteArray),
 ∃
 (x_107
 :
 ByteArray),
 ∃
 (x_108
 :
 ByteArray),
 ∃
 (x_109
 :
 Int),
 ∃
 (x_110
 :
 Int),
 ∃
 (x_111
 :
 ByteArray),
 ∃
 (p
 :
 Option
 Addr),
 ∃
 (n
 :
 Nat),
 ∃
 (c
 :
 Nat),
 ∃
 (x_112
 :
 ByteArray),
 gimp
 (true &&
 x ==
 x_104)
 (∀
 (w' :
 World),
 S
 w' →
 AtL
 w'
 n_5
 0
 [Value.string
 x_105,
 Value.string
 x_106,
 Value.string
 x_107,
 Value.string
 x_108,
 Value.int
 IntKind.i64
 x_109,
 Value.int
 IntKind.i64
 x_110,
 Value.string
 x_111,
 Value.slice
 p
 n
 c,
 Value.string
 x_112]) ∧
 ∃
 (x_113
 :
 ByteArray),
 ∃
 (x_114
 :
 ByteArray),
 ∃
 (x_115
 :
 ByteArray),
 ∃
 (x_116
 :
 ByteArray),
 ∃
 (x_117
 :
 Int),
 ∃
 (x_118
 :
 Int),
 ∃
 (x_119
 :
 ByteArray),
 ∃
 (p_8
 :
 Option
 Addr),
 ∃
 (n_14
 :
 Nat),
 ∃
 (c_8
 :
 Nat),
 ∃
 (x_120
 :
 ByteArray),
 gimp
 (true &&
 x ==
 x_104)
 (∀
 (w' :
 World),
 S
 w' →
 AtL
 w'
 n_1
 0
 [Value.string
 x_113,
 Value.string
 x_114,
 Value.string
 x_115,
 Value.string
 x_116,
 Value.int
 IntKind.i64
 x_117,
 Value.int
 IntKind.i64
 x_118,
 Value.string
 x_119,
 Value.slice
 p_8
 n_14
 c_8,
 Value.string
 x_120]) ∧
 bsp
 (true &&
 x ==
 x_104)
 (CallsS
 Tryd.prog
 8
 #[Value.agg
 #[Value.string
 x_113,
 Value.string
 x_114,
 Value.string
 x_115,
 Value.string
 x_116,
 Value.int
 IntKind.i64
 x_117,
 Value.int
 IntKind.i64
 x_118,
 Value.string
 x_119,
 Value.slice
 p_8
 n_14
 c_8,
 Value.string
 x_120]]
 w'
 fun
 (e :
 Ending)
 (w' :
 World) =>
 ∃
 (x
 :
 ByteArray),
 ∃
 (x_121
 :
 ByteArray),
 ∃
 (x_122
 :
 ByteArray),
 ∃
 (x_123
 :
 ByteArray),
 ∃
 (x_124
 :
 Int),
 ∃
 (x_125
 :
 Int),
 ∃
 (x_126
 :
 ByteArray),
 ∃
 (p_9
 :
 Option
 Addr),
 ∃
 (n_15
 :
 Nat),
 ∃
 (c_9
 :
 Nat),
 ∃
 (x_127
 :
 ByteArray),
 e =
 Ending.returned
 (Value.agg
 #[Value.string
 x,
 Value.string
 x_121,
 Value.string
 x_122,
 Value.string
 x_123,
 Value.int
 IntKind.i64
 x_124,
 Value.int
 IntKind.i64
 x_125,
 Value.string
 x_126,
 Value.slice
 p_9
 n_15
 c_9,
 Value.string
 x_127]) ∧
 S
 w' ∧
 CallsS
 Tryd.prog
 16
 #[Value.agg
 #[Value.string
 x_105,
 Value.string
 x_106,
 Value.string
 x_107,
 Value.string
 x_108,
 Value.int
 IntKind.i64
 x_109,
 Value.int
 IntKind.i64
 x_110,
 Value.string
 x_111,
 Value.slice
 p
 n
 c,
 Value.string
 x_112],
 Value.agg
 #[Value.string
 x,
 Value.string
 x_121,
 Value.string
 x_122,
 Value.string
 x_123,
 Value.int
 IntKind.i64
 x_124,
 Value.int
 IntKind.i64
 x_125,
 Value.string
 x_126,
 Value.slice
 p_9
 n_15
 c_9,
 Value.string
 x_127]]
 w'
 fun
 (e :
 Ending)
 (w' :
 World) =>
 ∃
 (x
 :
 Bool),
 e =
 Ending.returned
 (Value.bool
 x) ∧
 KeptL
 [n_2,
 n_1]
 W
 w' ∧
 R
 (Ending.returned
 (Value.bool
 (true &&
 x)))
 w')
 (S
 w' ∧
 KeptL
 [n_2,
 n_1]
 W
 w' ∧
 R
 (Ending.returned
 (Value.bool
 false))
 w'))
 (S
 w' ∧
 S
 w' ∧
 S
 w' ∧
 S
 w' ∧
 ∃
 (x
 :
 ByteArray),
 ∃
 (x
 :
 ByteArray),
 ∃
 (x
 :
 ByteArray),
 ∃
 (x
 :
 ByteArray),
 ∃
 (x
 :
 Int),
 ∃
 (x
 :
 Int),
 ∃
 (x
 :
 ByteArray),
 ∃
 (p
 :
 Option
 Addr),
 ∃
 (n
 :
 Nat),
 ∃
 (c
 :
 Nat),
 ∃
 (x
 :
 ByteArray),
 True ∧
 ∃
 (x
 :
 ByteArray),
 ∃
 (x
 :
 ByteArray),
 ∃
 (x
 :
 ByteArray),
 ∃
 (x
 :
 ByteArray),
 ∃
 (x
 :
 Int),
 ∃
 (x
 :
 Int),
 ∃
 (x
 :
 ByteArray),
 ∃
 (p
 :
 Option
 Addr),
 ∃
 (n
 :
 Nat),
 ∃
 (c
 :
 Nat),
 ∃
 (x
 :
 ByteArray),
 True ∧
 S
 w' ∧
 KeptL
 [n_2,
 n_1]
 W
 w' ∧
 R
 (Ending.returned
 (Value.bool
 false))
 w'))
 (S w' ∧
 S w' ∧
 S w' ∧
 ∃ (x :
 ByteArray),
 ∃ (x :
 ByteArray),
 ∃ (x :
 ByteArray),
 ∃ (x :
 ByteArray),
 ∃ (x :
 Int),
 ∃ (x :
 Int),
 ∃ (x :
 ByteArray),
 ∃ (p :
 Option
 Addr),
 ∃ (n
 :
 Nat),
 ∃ (c
 :
 Nat),
 ∃
 (x
 :
 ByteArray),
 True ∧
 ∃
 (x
 :
 ByteArray),
 ∃
 (x
 :
 ByteArray),
 ∃
 (x
 :
 ByteArray),
 ∃
 (x
 :
 ByteArray),
 ∃
 (x
 :
 Int),
 ∃
 (x
 :
 Int),
 ∃
 (x
 :
 ByteArray),
 ∃
 (p
 :
 Option
 Addr),
 ∃
 (n
 :
 Nat),
 ∃
 (c
 :
 Nat),
 ∃
 (x
 :
 ByteArray),
 True ∧
 ∃
 (x
 :
 ByteArray),
 ∃
 (x
 :
 ByteArray),
 ∃
 (x
 :
 ByteArray),
 ∃
 (x
 :
 ByteArray),
 ∃
 (x
 :
 Int),
 ∃
 (x
 :
 Int),
 ∃
 (x
 :
 ByteArray),
 ∃
 (p
 :
 Option
 Addr),
 ∃
 (n
 :
 Nat),
 ∃
 (c
 :
 Nat),
 ∃
 (x
 :
 ByteArray),
 True ∧
 ∃
 (x
 :
 ByteArray),
 ∃
 (x
 :
 ByteArray),
 ∃
 (x
 :
 ByteArray),
 ∃
 (x
 :
 ByteArray),
 ∃
 (x
 :
 Int),
 ∃
 (x
 :
 Int),
 ∃
 (x
 :
 ByteArray),
 ∃
 (p
 :
 Option
 Addr),
 ∃
 (n
 :
 Nat),
 ∃
 (c
 :
 Nat),
 ∃
 (x
 :
 ByteArray),
 True ∧
 S
 w' ∧
 S
 w' ∧
 S
 w' ∧
 S
 w' ∧
 ∃
 (x
 :
 ByteArray),
 ∃
 (x
 :
 ByteArray),
 ∃
 (x
 :
 ByteArray),
 ∃
 (x
 :
 ByteArray),
 ∃
 (x
 :
 Int),
 ∃
 (x
 :
 Int),
 ∃
 (x
 :
 ByteArray),
 ∃
 (p
 :
 Option
 Addr),
 ∃
 (n
 :
 Nat),
 ∃
 (c
 :
 Nat),
 ∃
 (x
 :
 ByteArray),
 True ∧
 ∃
 (x
 :
 ByteArray),
 ∃
 (x
 :
 ByteArray),
 ∃
 (x
 :
 ByteArray),
 ∃
 (x
 :
 ByteArray),
 ∃
 (x
 :
 Int),
 ∃
 (x
 :
 Int),
 ∃
 (x
 :
 ByteArray),
 ∃
 (p
 :
 Option
 Addr),
 ∃
 (n
 :
 Nat),
 ∃
 (c
 :
 Nat),
 ∃
 (x
 :
 ByteArray),
 True ∧
 S
 w' ∧
 KeptL
 [n_2,
 n_1]
 W
 w' ∧
 R
 (Ending.returned
 (Value.bool
 false))
 w')) ∧
 ∀ (n_5 : Nat) (w1 : World),
 NewB W
 (Obj.cells
 #[Value.string (ByteArray.mk #[]), Value.string (ByteArray.mk #[]),
 Value.string (ByteArray.mk #[]), Value.string (ByteArray.mk #[]),
 Value.int IntKind.i64 0, Value.int IntKind.i64 0, Value.string (ByteArray.mk #[]),
 Value.slice none 0 0, Value.string (ByteArray.mk #[])]
 29)
 n_5 w1 →
 S w1 ∧
 (CallsS Tryd.prog 8
 #[Value.agg
 #[Value.string x, Value.string x_1, Value.string x_2, Value.string x_3,
 Value.int IntKind.i64 x_4, Value.int IntKind.i64 x_5, Value.string x_6,
 Value.slice p n_3 c, Value.string x_7]]
 w1 fun (e : Ending) (w' : World) =>
 ∃ (x : ByteArray),
 ∃ (x_16 : ByteArray),
 ∃ (x_17 : ByteArray),
 ∃ (x_18 : ByteArray),
 ∃ (x_19 : Int),
 ∃ (x_20 : Int),
 ∃ (x_21 : ByteArray),
 ∃ (p : Option Addr),
 ∃ (n_6 : Nat),
 ∃ (c : Nat),
 ∃ (x_22 : ByteArray),
 e =
 Ending.returned
 (Value.agg
 #[Value.string x, Value.string x_16, Value.string x_17,
 Value.string x_18, Value.int IntKind.i64 x_19,
 Value.int IntKind.i64 x_20, Value.string x_21, Value.slice p n_6 c,
 Value.string x_22]) ∧
 S w' ∧
 (CallsS Tryd.prog 8
 #[Value.agg
 #[Value.string x_8, Value.string x_9, Value.string x_10,
 Value.string x_11, Value.int IntKind.i64 x_12,
 Value.int IntKind.i64 x_13, Value.string x_14,
 Value.slice p_1 n_4 c_1, Value.string x_15]]
 w' fun (e : Ending) (w' : World) =>
 ∃ (x_23 : ByteArray),
 ∃ (x_24 : ByteArray),
 ∃ (x_25 : ByteArray),
 ∃ (x_26 : ByteArray),
 ∃ (x_27 : Int),
 ∃ (x_28 : Int),
 ∃ (x_29 : ByteArray),
 ∃ (p_2 : Option Addr),
 ∃ (n_7 : Nat),
 ∃ (c_2 : Nat),
 ∃ (x_30 : ByteArray),
 e =
 Ending.returned
 (Value.agg
 #[Value.string x_23, Value.string x_24,
 Value.string x_25, Value.string x_26,
 Value.int IntKind.i64 x_27,
 Value.int IntKind.i64 x_28, Value.string x_29,
 Value.slice p_2 n_7 c_2, Value.string x_30]) ∧
 ∀ (n_8 : Nat) (w1 : World),
 NewB w'
 (Obj.cells
 #[Value.string (ByteArray.mk #[]),
 Value.string (ByteArray.mk #[]),
 Value.string (ByteArray.mk #[]),
 Value.string (ByteArray.mk #[]),
 Value.int IntKind.i64 0, Value.int IntKind.i64 0,
 Value.string (ByteArray.mk #[]),
 Value.slice none 0 0,
 Value.string (ByteArray.mk #[])]
 29)
 n_8 w1 →
 S w1 ∧
 WrL w1 n_8 0 9 ∧
 ∀ (w1_1 : World),
 PutB w1 n_8 0
 [Value.string x, Value.string x_16,
 Value.string x_17, Value.string x_18,
 Value.int IntKind.i64 x_19,
 Value.int IntKind.i64 x_20, Value.string x_21,
 Value.slice p n_6 c, Value.string x_22]
 w1_1 →
 WrL w1_1 n_5 0 9 ∧
 ∀ (w1 : World),
 PutB w1_1 n_5 0
 [Value.string x_23, Value.string x_24,
 Value.string x_25, Value.string x_26,
 Value.int IntKind.i64 x_27,
 Value.int IntKind.i64 x_28, Value.string x_29,
 Value.slice p_2 n_7 c_2, Value.string x_30]
 w1 →
 KeptL [n_2, n_1] W w1 ∧
 ∀ (W : World),
 Loc w.heap.size
 [Blk.mk n_2 26
 [Value.string fuy, Value.string fsy,
 Value.string tuy, Value.string tsy,
 Value.int IntKind.i64 ny,
 Value.int IntKind.i64 dy,
 Value.string sjy, Value.slice hpy hny hcy,
 Value.string bdy]
 0,
 Blk.mk n_1 26
 [Value.string fu, Value.string fs,
 Value.string tu, Value.string ts,
 Value.int IntKind.i64 n,
 Value.int IntKind.i64 d, Value.string sj,
 Value.slice hp hn hc, Value.string bd]
 0]
 w1 W →
 ∃ (S : World → Prop),
 S W ∧
 CallsS Tryd.prog 13 #[] W
 fun (e : Ending) (w' : World) =>
 ∃ (x : Bool),
 e = Ending.returned (Value.bool x) ∧
 S w' ∧
 ∃ (x_31 : ByteArray),
 ∃ (x_32 : ByteArray),
 ∃ (x_33 : ByteArray),
 ∃ (x_34 : ByteArray),
 ∃ (x_35 : Int),
 ∃ (x_36 : Int),
 ∃ (x_37 : ByteArray),
 ∃ (p : Option Addr),
 ∃ (n : Nat),
 ∃ (c : Nat),
 ∃ (x_38 : ByteArray),
 gimp x
 (∀ (w' : World),
 S w' →
 AtL w' n_8 0
 [Value.string x_31,
 Value.string x_32,
 Value.string x_33,
 Value.string x_34,
 Value.int IntKind.i64
 x_35,
 Value.int IntKind.i64
 x_36,
 Value.string x_37,
 Value.slice p n c,
 Value.string x_38]) ∧
 ∃ (x_39 : ByteArray),
 ∃ (x_40 : ByteArray),
 ∃ (x_41 : ByteArray),
 ∃ (x_42 : ByteArray),
 ∃ (x_43 : Int),
 ∃ (x_44 : Int),
 ∃ (x_45 : ByteArray),
 ∃ (p_3 :
 Option Addr),
 ∃ (n_9 : Nat),
 ∃ (c_3 : Nat),
 ∃ (x_46 :
 ByteArray),
 gimp x
 (∀
 (w' : World),
 S w' →
 AtL w' n_8 0
 [Value.string
 x_39,
 Value.string
 x_40,
 Value.string
 x_41,
 Value.string
 x_42,
 Value.int
 IntKind.i64
 x_43,
 Value.int
 IntKind.i64
 x_44,
 Value.string
 x_45,
 Value.slice
 p_3 n_9
 c_3,
 Value.string
 x_46]) ∧
 bsp x
 (CallsS
 Tryd.prog 14
 #[Value.agg
 #[Value.string
 x_31,
 Value.string
 x_32,
 Value.string
 x_33,
 Value.string
 x_34,
 Value.int
 IntKind.i64
 x_35,
 Value.int
 IntKind.i64
 x_36,
 Value.string
 x_37,
 Value.slice
 p n c,
 Value.string
 x_38]]
 w'
 fun
 (e : Ending)
 (w' :
 World) =>
 ∃ (x : Int),
 e =
 Ending.returned
 (Value.int
 IntKind.i64
 x) ∧
 S w' ∧
 CallsS
 Tryd.prog
 11
 #[Value.agg
 #[Value.string
 x_39,
 Value.string
 x_40,
 Value.string
 x_41,
 Value.string
 x_42,
 Value.int
 IntKind.i64
 x_43,
 Value.int
 IntKind.i64
 x_44,
 Value.string
 x_45,
 Value.slice
 p_3
 n_9
 c_3,
 Value.string
 x_46]]
 w'
 fun
 (e :
 Ending)
 (w' :
 World) =>
 ∃ (x_47 :
 ByteArray),
 ∃ (x_48 :
 ByteArray),
 ∃ (x_49
 :
 ByteArray),
 ∃ (x_50
 :
 ByteArray),
 ∃
 (x_51
 :
 Int),
 ∃
 (x_52
 :
 Int),
 ∃
 (x_53
 :
 ByteArray),
 ∃
 (p
 :
 Option
 Addr),
 ∃
 (n
 :
 Nat),
 ∃
 (c
 :
 Nat),
 ∃
 (x_54
 :
 ByteArray),
 e =
 Ending.returned
 (Value.agg
 #[Value.string
 x_47,
 Value.string
 x_48,
 Value.string
 x_49,
 Value.string
 x_50,
 Value.int
 IntKind.i64
 x_51,
 Value.int
 IntKind.i64
 x_52,
 Value.string
 x_53,
 Value.slice
 p
 n
 c,
 Value.string
 x_54]) ∧
 S
 w' ∧
 CallsS
 Tryd.prog
 15
 #[Value.agg
 #[Value.string
 x_47,
 Value.string
 x_48,
 Value.string
 x_49,
 Value.string
 x_50,
 Value.int
 IntKind.i64
 x_51,
 Value.int
 IntKind.i64
 x_52,
 Value.string
 x_53,
 Value.slice
 p
 n
 c,
 Value.string
 x_54]]
 w'
 fun
 (e :
 Ending)
 (w' :
 World) =>
 ∃
 (x_55
 :
 Int),
 e =
 Ending.returned
 (Value.int
 IntKind.i64
 x_55) ∧
 S
 w' ∧
 ∃
 (x_56
 :
 ByteArray),
 ∃
 (x_57
 :
 ByteArray),
 ∃
 (x_58
 :
 ByteArray),
 ∃
 (x_59
 :
 ByteArray),
 ∃
 (x_60
 :
 Int),
 ∃
 (x_61
 :
 Int),
 ∃
 (x_62
 :
 ByteArray),
 ∃
 (p
 :
 Option
 Addr),
 ∃
 (n
 :
 Nat),
 ∃
 (c
 :
 Nat),
 ∃
 (x_63
 :
 ByteArray),
 gimp
 (true &&
 x ==
 x_55)
 (∀
 (w' :
 World),
 S
 w' →
 AtL
 w'
 n_8
 0
 [Value.string
 x_56,
 Value.string
 x_57,
 Value.string
 x_58,
 Value.string
 x_59,
 Value.int
 IntKind.i64
 x_60,
 Value.int
 IntKind.i64
 x_61,
 Value.string
 x_62,
 Value.slice
 p
 n
 c,
 Value.string
 x_63]) ∧
 ∃
 (x_64
 :
 ByteArray),
 ∃
 (x_65
 :
 ByteArray),
 ∃
 (x_66
 :
 ByteArray),
 ∃
 (x_67
 :
 ByteArray),
 ∃
 (x_68
 :
 Int),
 ∃
 (x_69
 :
 Int),
 ∃
 (x_70
 :
 ByteArray),
 ∃
 (p_4
 :
 Option
 Addr),
 ∃
 (n_10
 :
 Nat),
 ∃
 (c_4
 :
 Nat),
 ∃
 (x_71
 :
 ByteArray),
 gimp
 (true &&
 x ==
 x_55)
 (∀
 (w' :
 World),
 S
 w' →
 AtL
 w'
 n_5
 0
 [Value.string
 x_64,
 Value.string
 x_65,
 Value.string
 x_66,
 Value.string
 x_67,
 Value.int
 IntKind.i64
 x_68,
 Value.int
 IntKind.i64
 x_69,
 Value.string
 x_70,
 Value.slice
 p_4
 n_10
 c_4,
 Value.string
 x_71]) ∧
 ∃
 (x_72
 :
 ByteArray),
 ∃
 (x_73
 :
 ByteArray),
 ∃
 (x_74
 :
 ByteArray),
 ∃
 (x_75
 :
 ByteArray),
 ∃
 (x_76
 :
 Int),
 ∃
 (x_77
 :
 Int),
 ∃
 (x_78
 :
 ByteArray),
 ∃
 (p_5
 :
 Option
 Addr),
 ∃
 (n_11
 :
 Nat),
 ∃
 (c_5
 :
 Nat),
 ∃
 (x_79
 :
 ByteArray),
 gimp
 (true &&
 x ==
 x_55)
 (∀
 (w' :
 World),
 S
 w' →
 AtL
 w'
 n_8
 0
 [Value.string
 x_72,
 Value.string
 x_73,
 Value.string
 x_74,
 Value.string
 x_75,
 Value.int
 IntKind.i64
 x_76,
 Value.int
 IntKind.i64
 x_77,
 Value.string
 x_78,
 Value.slice
 p_5
 n_11
 c_5,
 Value.string
 x_79]) ∧
 ∃
 (x_80
 :
 ByteArray),
 ∃
 (x_81
 :
 ByteArray),
 ∃
 (x_82
 :
 ByteArray),
 ∃
 (x_83
 :
 ByteArray),
 ∃
 (x_84
 :
 Int),
 ∃
 (x_85
 :
 Int),
 ∃
 (x_86
 :
 ByteArray),
 ∃
 (p_6
 :
 Option
 Addr),
 ∃
 (n_12
 :
 Nat),
 ∃
 (c_6
 :
 Nat),
 ∃
 (x_87
 :
 ByteArray),
 gimp
 (true &&
 x ==
 x_55)
 (∀
 (w' :
 World),
 S
 w' →
 AtL
 w'
 n_5
 0
 [Value.string
 x_80,
 Value.string
 x_81,
 Value.string
 x_82,
 Value.string
 x_83,
 Value.int
 IntKind.i64
 x_84,
 Value.int
 IntKind.i64
 x_85,
 Value.string
 x_86,
 Value.slice
 p_6
 n_12
 c_6,
 Value.string
 x_87]) ∧
 bsp
 (true &&
 x ==
 x_55)
 (CallsS
 Tryd.prog
 16
 #[Value.agg
 #[Value.string
 x_56,
 Value.string
 x_57,
 Value.string
 x_58,
 Value.string
 x_59,
 Value.int
 IntKind.i64
 x_60,
 Value.int
 IntKind.i64
 x_61,
 Value.string
 x_62,
 Value.slice
 p
 n
 c,
 Value.string
 x_63],
 Value.agg
 #[Value.string
 x_64,
 Value.string
 x_65,
 Value.string
 x_66,
 Value.string
 x_67,
 Value.int
 IntKind.i64
 x_68,
 Value.int
 IntKind.i64
 x_69,
 Value.string
 x_70,
 Value.slice
 p_4
 n_10
 c_4,
 Value.string
 x_71]]
 w'
 fun
 (e :
 Ending)
 (w' :
 World) =>
 ∃
 (x
 :
 Bool),
 e =
 Ending.returned
 (Value.bool
 x) ∧
 S
 w' ∧
 CallsS
 Tryd.prog
 11
 #[Value.agg
 #[Value.string
 x_72,
 Value.string
 x_73,
 Value.string
 x_74,
 Value.string
 x_75,
 Value.int
 IntKind.i64
 x_76,
 Value.int
 IntKind.i64
 x_77,
 Value.string
 x_78,
 Value.slice
 p_5
 n_11
 c_5,
 Value.string
 x_79]]
 w'
 fun
 (e :
 Ending)
 (w' :
 World) =>
 ∃
 (x_88
 :
 ByteArray),
 ∃
 (x_89
 :
 ByteArray),
 ∃
 (x_90
 :
 ByteArray),
 ∃
 (x_91
 :
 ByteArray),
 ∃
 (x_92
 :
 Int),
 ∃
 (x_93
 :
 Int),
 ∃
 (x_94
 :
 ByteArray),
 ∃
 (p
 :
 Option
 Addr),
 ∃
 (n
 :
 Nat),
 ∃
 (c
 :
 Nat),
 ∃
 (x_95
 :
 ByteArray),
 e =
 Ending.returned
 (Value.agg
 #[Value.string
 x_88,
 Value.string
 x_89,
 Value.string
 x_90,
 Value.string
 x_91,
 Value.int
 IntKind.i64
 x_92,
 Value.int
 IntKind.i64
 x_93,
 Value.string
 x_94,
 Value.slice
 p
 n
 c,
 Value.string
 x_95]) ∧
 S
 w' ∧
 CallsS
 Tryd.prog
 11
 #[Value.agg
 #[Value.string
 x_80,
 Value.string
 x_81,
 Value.string
 x_82,
 Value.string
 x_83,
 Value.int
 IntKind.i64
 x_84,
 Value.int
 IntKind.i64
 x_85,
 Value.string
 x_86,
 Value.slice
 p_6
 n_12
 c_6,
 Value.string
 x_87]]
 w'
 fun
 (e :
 Ending)
 (w' :
 World) =>
 ∃
 (x_96
 :
 ByteArray),
 ∃
 (x_97
 :
 ByteArray),
 ∃
 (x_98
 :
 ByteArray),
 ∃
 (x_99
 :
 ByteArray),
 ∃
 (x_100
 :
 Int),
 ∃
 (x_101
 :
 Int),
 ∃
 (x_102
 :
 ByteArray),
 ∃
 (p_7
 :
 Option
 Addr),
 ∃
 (n_13
 :
 Nat),
 ∃
 (c_7
 :
 Nat),
 ∃
 (x_103
 :
 ByteArray),
 e =
 Ending.returned
 (Value.agg
 #[Value.string
 x_96,
 Value.string
 x_97,
 Value.string
 x_98,
 Value.string
 x_99,
 Value.int
 IntKind.i64
 x_100,
 Value.int
 IntKind.i64
 x_101,
 Value.string
 x_102,
 Value.slice
 p_7
 n_13
 c_7,
 Value.string
 x_103]) ∧
 S
 w' ∧
 CallsS
 Tryd.prog
 12
 #[Value.agg
 #[Value.string
 x_88,
 Value.string
 x_89,
 Value.string
 x_90,
 Value.string
 x_91,
 Value.int
 IntKind.i64
 x_92,
 Value.int
 IntKind.i64
 x_93,
 Value.string
 x_94,
 Value.slice
 p
 n
 c,
 Value.string
 x_95],
 Value.agg
 #[Value.string
 x_96,
 Value.string
 x_97,
 Value.string
 x_98,
 Value.string
 x_99,
 Value.int
 IntKind.i64
 x_100,
 Value.int
 IntKind.i64
 x_101,
 Value.string
 x_102,
 Value.slice
 p_7
 n_13
 c_7,
 Value.string
 x_103]]
 w'
 fun
 (e :
 Ending)
 (w' :
 World) =>
 ∃
 (x_104
 :
 Bool),
 e =
 Ending.returned
 (Value.bool
 x_104) ∧
 S
 w' ∧
 ∃
 (x_105
 :
 ByteArray),
 ∃
 (x_106
 :
 ByteArray),
 ∃
 (x_107
 :
 ByteArray),
 ∃
 (x_108
 :
 ByteArray),
 ∃
 (x_109
 :
 Int),
 ∃
 (x_110
 :
 Int),
 ∃
 (x_111
 :
 ByteArray),
 ∃
 (p
 :
 Option
 Addr),
 ∃
 (n
 :
 Nat),
 ∃
 (c
 :
 Nat),
 ∃
 (x_112
 :
 ByteArray),
 gimp
 (true &&
 x ==
 x_104)
 (∀
 (w' :
 World),
 S
 w' →
 AtL
 w'
 n_8
 0
 [Value.string
 x_105,
 Value.string
 x_106,
 Value.string
 x_107,
 Value.string
 x_108,
 Value.int
 IntKind.i64
 x_109,
 Value.int
 IntKind.i64
 x_110,
 Value.string
 x_111,
 Value.slice
 p
 n
 c,
 Value.string
 x_112]) ∧
 ∃
 (x_113
 :
 ByteArray),
 ∃
 (x_114
 :
 ByteArray),
 ∃
 (x_115
 :
 ByteArray),
 ∃
 (x_116
 :
 ByteArray),
 ∃
 (x_117
 :
 Int),
 ∃
 (x_118
 :
 Int),
 ∃
 (x_119
 :
 ByteArray),
 ∃
 (p_8
 :
 Option
 Addr),
 ∃
 (n_14
 :
 Nat),
 ∃
 (c_8
 :
 Nat),
 ∃
 (x_120
 :
 ByteArray),
 gimp
 (true &&
 x ==
 x_104)
 (∀
 (w' :
 World),
 S
 w' →
 AtL
 w'
 n_1
 0
 [Value.string
 x_113,
 Value.string
 x_114,
 Value.string
 x_115,
 Value.string
 x_116,
 Value.int
 IntKind.i64
 x_117,
 Value.int
 IntKind.i64
 x_118,
 Value.string
 x_119,
 Value.slice
 p_8
 n_14
 c_8,
 Value.string
 x_120]) ∧
 bsp
 (true &&
 x ==
 x_104)
 (CallsS
 Tryd.prog
 8
 #[Value.agg
 #[Value.string
 x_113,
 Value.string
 x_114,
 Value.string
 x_115,
 Value.string
 x_116,
 Value.int
 IntKind.i64
 x_117,
 Value.int
 IntKind.i64
 x_118,
 Value.string
 x_119,
 Value.slice
 p_8
 n_14
 c_8,
 Value.string
 x_120]]
 w'
 fun
 (e :
 Ending)
 (w' :
 World) =>
 ∃
 (x
 :
 ByteArray),
 ∃
 (x_121
 :
 ByteArray),
 ∃
 (x_122
 :
 ByteArray),
 ∃
 (x_123
 :
 ByteArray),
 ∃
 (x_124
 :
 Int),
 ∃
 (x_125
 :
 Int),
 ∃
 (x_126
 :
 ByteArray),
 ∃
 (p_9
 :
 Option
 Addr),
 ∃
 (n_15
 :
 Nat),
 ∃
 (c_9
 :
 Nat),
 ∃
 (x_127
 :
 ByteArray),
 e =
 Ending.returned
 (Value.agg
 #[Value.string
 x,
 Value.string
 x_121,
 Value.string
 x_122,
 Value.string
 x_123,
 Value.int
 IntKind.i64
 x_124,
 Value.int
 IntKind.i64
 x_125,
 Value.string
 x_126,
 Value.slice
 p_9
 n_15
 c_9,
 Value.string
 x_127]) ∧
 S
 w' ∧
 CallsS
 Tryd.prog
 16
 #[Value.agg
 #[Value.string
 x_105,
 Value.string
 x_106,
 Value.string
 x_107,
 Value.string
 x_108,
 Value.int
 IntKind.i64
 x_109,
 Value.int
 IntKind.i64
 x_110,
 Value.string
 x_111,
 Value.slice
 p
 n
 c,
 Value.string
 x_112],
 Value.agg
 #[Value.string
 x,
 Value.string
 x_121,
 Value.string
 x_122,
 Value.string
 x_123,
 Value.int
 IntKind.i64
 x_124,
 Value.int
 IntKind.i64
 x_125,
 Value.string
 x_126,
 Value.slice
 p_9
 n_15
 c_9,
 Value.string
 x_127]]
 w'
 fun
 (e :
 Ending)
 (w' :
 World) =>
 ∃
 (x
 :
 Bool),
 e =
 Ending.returned
 (Value.bool
 x) ∧
 KeptL
 [n_2,
 n_1]
 W
 w' ∧
 R
 (Ending.returned
 (Value.bool
 (true &&
 x)))
 w')
 (S
 w' ∧
 KeptL
 [n_2,
 n_1]
 W
 w' ∧
 R
 (Ending.returned
 (Value.bool
 false))
 w'))
 (S
 w' ∧
 S
 w' ∧
 S
 w' ∧
 S
 w' ∧
 ∃
 (x
 :
 ByteArray),
 ∃
 (x
 :
 ByteArray),
 ∃
 (x
 :
 ByteArray),
 ∃
 (x
 :
 ByteArray),
 ∃
 (x
 :
 Int),
 ∃
 (x
 :
 Int),
 ∃
 (x
 :
 ByteArray),
 ∃
 (p
 :
 Option
 Addr),
 ∃
 (n
 :
 Nat),
 ∃
 (c
 :
 Nat),
 ∃
 (x
 :
 ByteArray),
 True ∧
 ∃
 (x
 :
 ByteArray),
 ∃
 (x
 :
 ByteArray),
 ∃
 (x
 :
 ByteArray),
 ∃
 (x
 :
 ByteArray),
 ∃
 (x
 :
 Int),
 ∃
 (x
 :
 Int),
 ∃
 (x
 :
 ByteArray),
 ∃
 (p
 :
 Option
 Addr),
 ∃
 (n
 :
 Nat),
 ∃
 (c
 :
 Nat),
 ∃
 (x
 :
 ByteArray),
 True ∧
 S
 w' ∧
 KeptL
 [n_2,
 n_1]
 W
 w' ∧
 R
 (Ending.returned
 (Value.bool
 false))
 w'))
 (S w' ∧
 S w' ∧
 S w' ∧
 ∃ (x :
 ByteArray),
 ∃ (x :
 ByteArray),
 ∃ (x :
 ByteArray),
 ∃ (x :
 ByteArray),
 ∃ (x :
 Int),
 ∃ (x :
 Int),
 ∃ (x :
 ByteArray),
 ∃ (p
 :
 Option
 Addr),
 ∃ (n
 :
 Nat),
 ∃
 (c
 :
 Nat),
 ∃
 (x
 :
 ByteArray),
 True ∧
 ∃
 (x
 :
 ByteArray),
 ∃
 (x
 :
 ByteArray),
 ∃
 (x
 :
 ByteArray),
 ∃
 (x
 :
 ByteArray),
 ∃
 (x
 :
 Int),
 ∃
 (x
 :
 Int),
 ∃
 (x
 :
 ByteArray),
 ∃
 (p
 :
 Option
 Addr),
 ∃
 (n
 :
 Nat),
 ∃
 (c
 :
 Nat),
 ∃
 (x
 :
 ByteArray),
 True ∧
 ∃
 (x
 :
 ByteArray),
 ∃
 (x
 :
 ByteArray),
 ∃
 (x
 :
 ByteArray),
 ∃
 (x
 :
 ByteArray),
 ∃
 (x
 :
 Int),
 ∃
 (x
 :
 Int),
 ∃
 (x
 :
 ByteArray),
 ∃
 (p
 :
 Option
 Addr),
 ∃
 (n
 :
 Nat),
 ∃
 (c
 :
 Nat),
 ∃
 (x
 :
 ByteArray),
 True ∧
 ∃
 (x
 :
 ByteArray),
 ∃
 (x
 :
 ByteArray),
 ∃
 (x
 :
 ByteArray),
 ∃
 (x
 :
 ByteArray),
 ∃
 (x
 :
 Int),
 ∃
 (x
 :
 Int),
 ∃
 (x
 :
 ByteArray),
 ∃
 (p
 :
 Option
 Addr),
 ∃
 (n
 :
 Nat),
 ∃
 (c
 :
 Nat),
 ∃
 (x
 :
 ByteArray),
 True ∧
 S
 w' ∧
 S
 w' ∧
 S
 w' ∧
 S
 w' ∧
 ∃
 (x
 :
 ByteArray),
 ∃
 (x
 :
 ByteArray),
 ∃
 (x
 :
 ByteArray),
 ∃
 (x
 :
 ByteArray),
 ∃
 (x
 :
 Int),
 ∃
 (x
 :
 Int),
 ∃
 (x
 :
 ByteArray),
 ∃
 (p
 :
 Option
 Addr),
 ∃
 (n
 :
 Nat),
 ∃
 (c
 :
 Nat),
 ∃
 (x
 :
 ByteArray),
 True ∧
 ∃
 (x
 :
 ByteArray),
 ∃
 (x
 :
 ByteArray),
 ∃
 (x
 :
 ByteArray),
 ∃
 (x
 :
 ByteArray),
 ∃
 (x
 :
 Int),
 ∃
 (x
 :
 Int),
 ∃
 (x
 :
 ByteArray),
 ∃
 (p
 :
 Option
 Addr),
 ∃
 (n
 :
 Nat),
 ∃
 (c
 :
 Nat),
 ∃
 (x
 :
 ByteArray),
 True ∧
 S
 w' ∧
 KeptL
 [n_2,
 n_1]
 W
 w' ∧
 R
 (Ending.returned
 (Value.bool
 false))
 w')) ∧
 ∀ (n_7 : Nat) (w1 : World),
 NewB w'
 (Obj.cells
 #[Value.string (ByteArray.mk #[]), Value.string (ByteArray.mk #[]),
 Value.string (ByteArray.mk #[]), Value.string (ByteArray.mk #[]),
 Value.int IntKind.i64 0, Value.int IntKind.i64 0,
 Value.string (ByteArray.mk #[]), Value.slice none 0 0,
 Value.string (ByteArray.mk #[])]
 29)
 n_7 w1 →
 S w1 ∧
 CallsS Tryd.prog 8
 #[Value.agg
 #[Value.string x_8, Value.string x_9, Value.string x_10,
 Value.string x_11, Value.int IntKind.i64 x_12,
 Value.int IntKind.i64 x_13, Value.string x_14,
 Value.slice p_1 n_4 c_1, Value.string x_15]]
 w1 fun (e : Ending) (w' : World) =>
 ∃ (x_23 : ByteArray),
 ∃ (x_24 : ByteArray),
 ∃ (x_25 : ByteArray),
 ∃ (x_26 : ByteArray),
 ∃ (x_27 : Int),
 ∃ (x_28 : Int),
 ∃ (x_29 : ByteArray),
 ∃ (p_2 : Option Addr),
 ∃ (n_8 : Nat),
 ∃ (c_2 : Nat),
 ∃ (x_30 : ByteArray),
 e =
 Ending.returned
 (Value.agg
 #[Value.string x_23, Value.string x_24,
 Value.string x_25, Value.string x_26,
 Value.int IntKind.i64 x_27,
 Value.int IntKind.i64 x_28, Value.string x_29,
 Value.slice p_2 n_8 c_2, Value.string x_30]) ∧
 WrL w' n_7 0 9 ∧
 ∀ (w1 : World),
 PutB w' n_7 0
 [Value.string x, Value.string x_16,
 Value.string x_17, Value.string x_18,
 Value.int IntKind.i64 x_19,
 Value.int IntKind.i64 x_20, Value.string x_21,
 Value.slice p n_6 c, Value.string x_22]
 w1 →
 WrL w1 n_5 0 9 ∧
 ∀ (w1_1 : World),
 PutB w1 n_5 0
 [Value.string x_23, Value.string x_24,
 Value.string x_25, Value.string x_26,
 Value.int IntKind.i64 x_27,
 Value.int IntKind.i64 x_28, Value.string x_29,
 Value.slice p_2 n_8 c_2, Value.string x_30]
 w1_1 →
 KeptL [n_2, n_1] W w1_1 ∧
 ∀ (W : World),
 Loc w.heap.size
 [Blk.mk n_2 26
 [Value.string fuy, Value.string fsy,
 Value.string tuy, Value.string tsy,
 Value.int IntKind.i64 ny,
 Value.int IntKind.i64 dy,
 Value.string sjy, Value.slice hpy hny hcy,
 Value.string bdy]
 0,
 Blk.mk n_1 26
 [Value.string fu, Value.string fs,
 Value.string tu, Value.string ts,
 Value.int IntKind.i64 n,
 Value.int IntKind.i64 d, Value.string sj,
 Value.slice hp hn hc, Value.string bd]
 0]
 w1_1 W →
 ∃ (S : World → Prop),
 S W ∧
 CallsS Tryd.prog 13 #[] W
 fun (e : Ending) (w' : World) =>
 ∃ (x : Bool),
 e = Ending.returned (Value.bool x) ∧
 S w' ∧
 ∃ (x_31 : ByteArray),
 ∃ (x_32 : ByteArray),
 ∃ (x_33 : ByteArray),
 ∃ (x_34 : ByteArray),
 ∃ (x_35 : Int),
 ∃ (x_36 : Int),
 ∃ (x_37 : ByteArray),
 ∃ (p : Option Addr),
 ∃ (n : Nat),
 ∃ (c : Nat),
 ∃ (x_38 : ByteArray),
 gimp x
 (∀ (w' : World),
 S w' →
 AtL w' n_7 0
 [Value.string x_31,
 Value.string x_32,
 Value.string x_33,
 Value.string x_34,
 Value.int IntKind.i64
 x_35,
 Value.int IntKind.i64
 x_36,
 Value.string x_37,
 Value.slice p n c,
 Value.string x_38]) ∧
 ∃ (x_39 : ByteArray),
 ∃ (x_40 : ByteArray),
 ∃ (x_41 : ByteArray),
 ∃ (x_42 : ByteArray),
 ∃ (x_43 : Int),
 ∃ (x_44 : Int),
 ∃ (x_45 : ByteArray),
 ∃ (p_3 :
 Option Addr),
 ∃ (n_9 : Nat),
 ∃ (c_3 : Nat),
 ∃ (x_46 :
 ByteArray),
 gimp x
 (∀
 (w' : World),
 S w' →
 AtL w' n_7 0
 [Value.string
 x_39,
 Value.string
 x_40,
 Value.string
 x_41,
 Value.string
 x_42,
 Value.int
 IntKind.i64
 x_43,
 Value.int
 IntKind.i64
 x_44,
 Value.string
 x_45,
 Value.slice
 p_3 n_9
 c_3,
 Value.string
 x_46]) ∧
 bsp x
 (CallsS
 Tryd.prog 14
 #[Value.agg
 #[Value.string
 x_31,
 Value.string
 x_32,
 Value.string
 x_33,
 Value.string
 x_34,
 Value.int
 IntKind.i64
 x_35,
 Value.int
 IntKind.i64
 x_36,
 Value.string
 x_37,
 Value.slice
 p n c,
 Value.string
 x_38]]
 w'
 fun
 (e : Ending)
 (w' :
 World) =>
 ∃ (x : Int),
 e =
 Ending.returned
 (Value.int
 IntKind.i64
 x) ∧
 S w' ∧
 CallsS
 Tryd.prog
 11
 #[Value.agg
 #[Value.string
 x_39,
 Value.string
 x_40,
 Value.string
 x_41,
 Value.string
 x_42,
 Value.int
 IntKind.i64
 x_43,
 Value.int
 IntKind.i64
 x_44,
 Value.string
 x_45,
 Value.slice
 p_3
 n_9
 c_3,
 Value.string
 x_46]]
 w'
 fun
 (e :
 Ending)
 (w' :
 World) =>
 ∃ (x_47 :
 ByteArray),
 ∃ (x_48 :
 ByteArray),
 ∃ (x_49
 :
 ByteArray),
 ∃ (x_50
 :
 ByteArray),
 ∃
 (x_51
 :
 Int),
 ∃
 (x_52
 :
 Int),
 ∃
 (x_53
 :
 ByteArray),
 ∃
 (p
 :
 Option
 Addr),
 ∃
 (n
 :
 Nat),
 ∃
 (c
 :
 Nat),
 ∃
 (x_54
 :
 ByteArray),
 e =
 Ending.returned
 (Value.agg
 #[Value.string
 x_47,
 Value.string
 x_48,
 Value.string
 x_49,
 Value.string
 x_50,
 Value.int
 IntKind.i64
 x_51,
 Value.int
 IntKind.i64
 x_52,
 Value.string
 x_53,
 Value.slice
 p
 n
 c,
 Value.string
 x_54]) ∧
 S
 w' ∧
 CallsS
 Tryd.prog
 15
 #[Value.agg
 #[Value.string
 x_47,
 Value.string
 x_48,
 Value.string
 x_49,
 Value.string
 x_50,
 Value.int
 IntKind.i64
 x_51,
 Value.int
 IntKind.i64
 x_52,
 Value.string
 x_53,
 Value.slice
 p
 n
 c,
 Value.string
 x_54]]
 w'
 fun
 (e :
 Ending)
 (w' :
 World) =>
 ∃
 (x_55
 :
 Int),
 e =
 Ending.returned
 (Value.int
 IntKind.i64
 x_55) ∧
 S
 w' ∧
 ∃
 (x_56
 :
 ByteArray),
 ∃
 (x_57
 :
 ByteArray),
 ∃
 (x_58
 :
 ByteArray),
 ∃
 (x_59
 :
 ByteArray),
 ∃
 (x_60
 :
 Int),
 ∃
 (x_61
 :
 Int),
 ∃
 (x_62
 :
 ByteArray),
 ∃
 (p
 :
 Option
 Addr),
 ∃
 (n
 :
 Nat),
 ∃
 (c
 :
 Nat),
 ∃
 (x_63
 :
 ByteArray),
 gimp
 (true &&
 x ==
 x_55)
 (∀
 (w' :
 World),
 S
 w' →
 AtL
 w'
 n_7
 0
 [Value.string
 x_56,
 Value.string
 x_57,
 Value.string
 x_58,
 Value.string
 x_59,
 Value.int
 IntKind.i64
 x_60,
 Value.int
 IntKind.i64
 x_61,
 Value.string
 x_62,
 Value.slice
 p
 n
 c,
 Value.string
 x_63]) ∧
 ∃
 (x_64
 :
 ByteArray),
 ∃
 (x_65
 :
 ByteArray),
 ∃
 (x_66
 :
 ByteArray),
 ∃
 (x_67
 :
 ByteArray),
 ∃
 (x_68
 :
 Int),
 ∃
 (x_69
 :
 Int),
 ∃
 (x_70
 :
 ByteArray),
 ∃
 (p_4
 :
 Option
 Addr),
 ∃
 (n_10
 :
 Nat),
 ∃
 (c_4
 :
 Nat),
 ∃
 (x_71
 :
 ByteArray),
 gimp
 (true &&
 x ==
 x_55)
 (∀
 (w' :
 World),
 S
 w' →
 AtL
 w'
 n_5
 0
 [Value.string
 x_64,
 Value.string
 x_65,
 Value.string
 x_66,
 Value.string
 x_67,
 Value.int
 IntKind.i64
 x_68,
 Value.int
 IntKind.i64
 x_69,
 Value.string
 x_70,
 Value.slice
 p_4
 n_10
 c_4,
 Value.string
 x_71]) ∧
 ∃
 (x_72
 :
 ByteArray),
 ∃
 (x_73
 :
 ByteArray),
 ∃
 (x_74
 :
 ByteArray),
 ∃
 (x_75
 :
 ByteArray),
 ∃
 (x_76
 :
 Int),
 ∃
 (x_77
 :
 Int),
 ∃
 (x_78
 :
 ByteArray),
 ∃
 (p_5
 :
 Option
 Addr),
 ∃
 (n_11
 :
 Nat),
 ∃
 (c_5
 :
 Nat),
 ∃
 (x_79
 :
 ByteArray),
 gimp
 (true &&
 x ==
 x_55)
 (∀
 (w' :
 World),
 S
 w' →
 AtL
 w'
 n_7
 0
 [Value.string
 x_72,
 Value.string
 x_73,
 Value.string
 x_74,
 Value.string
 x_75,
 Value.int
 IntKind.i64
 x_76,
 Value.int
 IntKind.i64
 x_77,
 Value.string
 x_78,
 Value.slice
 p_5
 n_11
 c_5,
 Value.string
 x_79]) ∧
 ∃
 (x_80
 :
 ByteArray),
 ∃
 (x_81
 :
 ByteArray),
 ∃
 (x_82
 :
 ByteArray),
 ∃
 (x_83
 :
 ByteArray),
 ∃
 (x_84
 :
 Int),
 ∃
 (x_85
 :
 Int),
 ∃
 (x_86
 :
 ByteArray),
 ∃
 (p_6
 :
 Option
 Addr),
 ∃
 (n_12
 :
 Nat),
 ∃
 (c_6
 :
 Nat),
 ∃
 (x_87
 :
 ByteArray),
 gimp
 (true &&
 x ==
 x_55)
 (∀
 (w' :
 World),
 S
 w' →
 AtL
 w'
 n_5
 0
 [Value.string
 x_80,
 Value.string
 x_81,
 Value.string
 x_82,
 Value.string
 x_83,
 Value.int
 IntKind.i64
 x_84,
 Value.int
 IntKind.i64
 x_85,
 Value.string
 x_86,
 Value.slice
 p_6
 n_12
 c_6,
 Value.string
 x_87]) ∧
 bsp
 (true &&
 x ==
 x_55)
 (CallsS
 Tryd.prog
 16
 #[Value.agg
 #[Value.string
 x_56,
 Value.string
 x_57,
 Value.string
 x_58,
 Value.string
 x_59,
 Value.int
 IntKind.i64
 x_60,
 Value.int
 IntKind.i64
 x_61,
 Value.string
 x_62,
 Value.slice
 p
 n
 c,
 Value.string
 x_63],
 Value.agg
 #[Value.string
 x_64,
 Value.string
 x_65,
 Value.string
 x_66,
 Value.string
 x_67,
 Value.int
 IntKind.i64
 x_68,
 Value.int
 IntKind.i64
 x_69,
 Value.string
 x_70,
 Value.slice
 p_4
 n_10
 c_4,
 Value.string
 x_71]]
 w'
 fun
 (e :
 Ending)
 (w' :
 World) =>
 ∃
 (x
 :
 Bool),
 e =
 Ending.returned
 (Value.bool
 x) ∧
 S
 w' ∧
 CallsS
 Tryd.prog
 11
 #[Value.agg
 #[Value.string
 x_72,
 Value.string
 x_73,
 Value.string
 x_74,
 Value.string
 x_75,
 Value.int
 IntKind.i64
 x_76,
 Value.int
 IntKind.i64
 x_77,
 Value.string
 x_78,
 Value.slice
 p_5
 n_11
 c_5,
 Value.string
 x_79]]
 w'
 fun
 (e :
 Ending)
 (w' :
 World) =>
 ∃
 (x_88
 :
 ByteArray),
 ∃
 (x_89
 :
 ByteArray),
 ∃
 (x_90
 :
 ByteArray),
 ∃
 (x_91
 :
 ByteArray),
 ∃
 (x_92
 :
 Int),
 ∃
 (x_93
 :
 Int),
 ∃
 (x_94
 :
 ByteArray),
 ∃
 (p
 :
 Option
 Addr),
 ∃
 (n
 :
 Nat),
 ∃
 (c
 :
 Nat),
 ∃
 (x_95
 :
 ByteArray),
 e =
 Ending.returned
 (Value.agg
 #[Value.string
 x_88,
 Value.string
 x_89,
 Value.string
 x_90,
 Value.string
 x_91,
 Value.int
 IntKind.i64
 x_92,
 Value.int
 IntKind.i64
 x_93,
 Value.string
 x_94,
 Value.slice
 p
 n
 c,
 Value.string
 x_95]) ∧
 S
 w' ∧
 CallsS
 Tryd.prog
 11
 #[Value.agg
 #[Value.string
 x_80,
 Value.string
 x_81,
 Value.string
 x_82,
 Value.string
 x_83,
 Value.int
 IntKind.i64
 x_84,
 Value.int
 IntKind.i64
 x_85,
 Value.string
 x_86,
 Value.slice
 p_6
 n_12
 c_6,
 Value.string
 x_87]]
 w'
 fun
 (e :
 Ending)
 (w' :
 World) =>
 ∃
 (x_96
 :
 ByteArray),
 ∃
 (x_97
 :
 ByteArray),
 ∃
 (x_98
 :
 ByteArray),
 ∃
 (x_99
 :
 ByteArray),
 ∃
 (x_100
 :
 Int),
 ∃
 (x_101
 :
 Int),
 ∃
 (x_102
 :
 ByteArray),
 ∃
 (p_7
 :
 Option
 Addr),
 ∃
 (n_13
 :
 Nat),
 ∃
 (c_7
 :
 Nat),
 ∃
 (x_103
 :
 ByteArray),
 e =
 Ending.returned
 (Value.agg
 #[Value.string
 x_96,
 Value.string
 x_97,
 Value.string
 x_98,
 Value.string
 x_99,
 Value.int
 IntKind.i64
 x_100,
 Value.int
 IntKind.i64
 x_101,
 Value.string
 x_102,
 Value.slice
 p_7
 n_13
 c_7,
 Value.string
 x_103]) ∧
 S
 w' ∧
 CallsS
 Tryd.prog
 12
 #[Value.agg
 #[Value.string
 x_88,
 Value.string
 x_89,
 Value.string
 x_90,
 Value.string
 x_91,
 Value.int
 IntKind.i64
 x_92,
 Value.int
 IntKind.i64
 x_93,
 Value.string
 x_94,
 Value.slice
 p
 n
 c,
 Value.string
 x_95],
 Value.agg
 #[Value.string
 x_96,
 Value.string
 x_97,
 Value.string
 x_98,
 Value.string
 x_99,
 Value.int
 IntKind.i64
 x_100,
 Value.int
 IntKind.i64
 x_101,
 Value.string
 x_102,
 Value.slice
 p_7
 n_13
 c_7,
 Value.string
 x_103]]
 w'
 fun
 (e :
 Ending)
 (w' :
 World) =>
 ∃
 (x_104
 :
 Bool),
 e =
 Ending.returned
 (Value.bool
 x_104) ∧
 S
 w' ∧
 ∃
 (x_105
 :
 ByteArray),
 ∃
 (x_106
 :
 ByteArray),
 ∃
 (x_107
 :
 ByteArray),
 ∃
 (x_108
 :
 ByteArray),
 ∃
 (x_109
 :
 Int),
 ∃
 (x_110
 :
 Int),
 ∃
 (x_111
 :
 ByteArray),
 ∃
 (p
 :
 Option
 Addr),
 ∃
 (n
 :
 Nat),
 ∃
 (c
 :
 Nat),
 ∃
 (x_112
 :
 ByteArray),
 gimp
 (true &&
 x ==
 x_104)
 (∀
 (w' :
 World),
 S
 w' →
 AtL
 w'
 n_7
 0
 [Value.string
 x_105,
 Value.string
 x_106,
 Value.string
 x_107,
 Value.string
 x_108,
 Value.int
 IntKind.i64
 x_109,
 Value.int
 IntKind.i64
 x_110,
 Value.string
 x_111,
 Value.slice
 p
 n
 c,
 Value.string
 x_112]) ∧
 ∃
 (x_113
 :
 ByteArray),
 ∃
 (x_114
 :
 ByteArray),
 ∃
 (x_115
 :
 ByteArray),
 ∃
 (x_116
 :
 ByteArray),
 ∃
 (x_117
 :
 Int),
 ∃
 (x_118
 :
 Int),
 ∃
 (x_119
 :
 ByteArray),
 ∃
 (p_8
 :
 Option
 Addr),
 ∃
 (n_14
 :
 Nat),
 ∃
 (c_8
 :
 Nat),
 ∃
 (x_120
 :
 ByteArray),
 gimp
 (true &&
 x ==
 x_104)
 (∀
 (w' :
 World),
 S
 w' →
 AtL
 w'
 n_1
 0
 [Value.string
 x_113,
 Value.string
 x_114,
 Value.string
 x_115,
 Value.string
 x_116,
 Value.int
 IntKind.i64
 x_117,
 Value.int
 IntKind.i64
 x_118,
 Value.string
 x_119,
 Value.slice
 p_8
 n_14
 c_8,
 Value.string
 x_120]) ∧
 bsp
 (true &&
 x ==
 x_104)
 (CallsS
 Tryd.prog
 8
 #[Value.agg
 #[Value.string
 x_113,
 Value.string
 x_114,
 Value.string
 x_115,
 Value.string
 x_116,
 Value.int
 IntKind.i64
 x_117,
 Value.int
 IntKind.i64
 x_118,
 Value.string
 x_119,
 Value.slice
 p_8
 n_14
 c_8,
 Value.string
 x_120]]
 w'
 fun
 (e :
 Ending)
 (w' :
 World) =>
 ∃
 (x
 :
 ByteArray),
 ∃
 (x_121
 :
 ByteArray),
 ∃
 (x_122
 :
 ByteArray),
 ∃
 (x_123
 :
 ByteArray),
 ∃
 (x_124
 :
 Int),
 ∃
 (x_125
 :
 Int),
 ∃
 (x_126
 :
 ByteArray),
 ∃
 (p_9
 :
 Option
 Addr),
 ∃
 (n_15
 :
 Nat),
 ∃
 (c_9
 :
 Nat),
 ∃
 (x_127
 :
 ByteArray),
 e =
 Ending.returned
 (Value.agg
 #[Value.string
 x,
 Value.string
 x_121,
 Value.string
 x_122,
 Value.string
 x_123,
 Value.int
 IntKind.i64
 x_124,
 Value.int
 IntKind.i64
 x_125,
 Value.string
 x_126,
 Value.slice
 p_9
 n_15
 c_9,
 Value.string
 x_127]) ∧
 S
 w' ∧
 CallsS
 Tryd.prog
 16
 #[Value.agg
 #[Value.string
 x_105,
 Value.string
 x_106,
 Value.string
 x_107,
 Value.string
 x_108,
 Value.int
 IntKind.i64
 x_109,
 Value.int
 IntKind.i64
 x_110,
 Value.string
 x_111,
 Value.slice
 p
 n
 c,
 Value.string
 x_112],
 Value.agg
 #[Value.string
 x,
 Value.string
 x_121,
 Value.string
 x_122,
 Value.string
 x_123,
 Value.int
 IntKind.i64
 x_124,
 Value.int
 IntKind.i64
 x_125,
 Value.string
 x_126,
 Value.slice
 p_9
 n_15
 c_9,
 Value.string
 x_127]]
 w'
 fun
 (e :
 Ending)
 (w' :
 World) =>
 ∃
 (x
 :
 Bool),
 e =
 Ending.returned
 (Value.bool
 x) ∧
 KeptL
 [n_2,
 n_1]
 W
 w' ∧
 R
 (Ending.returned
 (Value.bool
 (true &&
 x)))
 w')
 (S
 w' ∧
 KeptL
 [n_2,
 n_1]
 W
 w' ∧
 R
 (Ending.returned
 (Value.bool
 false))
 w'))
 (S
 w' ∧
 S
 w' ∧
 S
 w' ∧
 S
 w' ∧
 ∃
 (x
 :
 ByteArray),
 ∃
 (x
 :
 ByteArray),
 ∃
 (x
 :
 ByteArray),
 ∃
 (x
 :
 ByteArray),
 ∃
 (x
 :
 Int),
 ∃
 (x
 :
 Int),
 ∃
 (x
 :
 ByteArray),
 ∃
 (p
 :
 Option
 Addr),
 ∃
 (n
 :
 Nat),
 ∃
 (c
 :
 Nat),
 ∃
 (x
 :
 ByteArray),
 True ∧
 ∃
 (x
 :
 ByteArray),
 ∃
 (x
 :
 ByteArray),
 ∃
 (x
 :
 ByteArray),
 ∃
 (x
 :
 ByteArray),
 ∃
 (x
 :
 Int),
 ∃
 (x
 :
 Int),
 ∃
 (x
 :
 ByteArray),
 ∃
 (p
 :
 Option
 Addr),
 ∃
 (n
 :
 Nat),
 ∃
 (c
 :
 Nat),
 ∃
 (x
 :
 ByteArray),
 True ∧
 S
 w' ∧
 KeptL
 [n_2,
 n_1]
 W
 w' ∧
 R
 (Ending.returned
 (Value.bool
 false))
 w'))
 (S w' ∧
 S w' ∧
 S w' ∧
 ∃ (x :
 ByteArray),
 ∃ (x :
 ByteArray),
 ∃ (x :
 ByteArray),
 ∃ (x :
 ByteArray),
 ∃ (x :
 Int),
 ∃ (x :
 Int),
 ∃ (x :
 ByteArray),
 ∃ (p
 :
 Option
 Addr),
 ∃ (n
 :
 Nat),
 ∃
 (c
 :
 Nat),
 ∃
 (x
 :
 ByteArray),
 True ∧
 ∃
 (x
 :
 ByteArray),
 ∃
 (x
 :
 ByteArray),
 ∃
 (x
 :
 ByteArray),
 ∃
 (x
 :
 ByteArray),
 ∃
 (x
 :
 Int),
 ∃
 (x
 :
 Int),
 ∃
 (x
 :
 ByteArray),
 ∃
 (p
 :
 Option
 Addr),
 ∃
 (n
 :
 Nat),
 ∃
 (c
 :
 Nat),
 ∃
 (x
 :
 ByteArray),
 True ∧
 ∃
 (x
 :
 ByteArray),
 ∃
 (x
 :
 ByteArray),
 ∃
 (x
 :
 ByteArray),
 ∃
 (x
 :
 ByteArray),
 ∃
 (x
 :
 Int),
 ∃
 (x
 :
 Int),
 ∃
 (x
 :
 ByteArray),
 ∃
 (p
 :
 Option
 Addr),
 ∃
 (n
 :
 Nat),
 ∃
 (c
 :
 Nat),
 ∃
 (x
 :
 ByteArray),
 True ∧
 ∃
 (x
 :
 ByteArray),
 ∃
 (x
 :
 ByteArray),
 ∃
 (x
 :
 ByteArray),
 ∃
 (x
 :
 ByteArray),
 ∃
 (x
 :
 Int),
 ∃
 (x
 :
 Int),
 ∃
 (x
 :
 ByteArray),
 ∃
 (p
 :
 Option
 Addr),
 ∃
 (n
 :
 Nat),
 ∃
 (c
 :
 Nat),
 ∃
 (x
 :
 ByteArray),
 True ∧
 S
 w' ∧
 S
 w' ∧
 S
 w' ∧
 S
 w' ∧
 ∃
 (x
 :
 ByteArray),
 ∃
 (x
 :
 ByteArray),
 ∃
 (x
 :
 ByteArray),
 ∃
 (x
 :
 ByteArray),
 ∃
 (x
 :
 Int),
 ∃
 (x
 :
 Int),
 ∃
 (x
 :
 ByteArray),
 ∃
 (p
 :
 Option
 Addr),
 ∃
 (n
 :
 Nat),
 ∃
 (c
 :
 Nat),
 ∃
 (x
 :
 ByteArray),
 True ∧
 ∃
 (x
 :
 ByteArray),
 ∃
 (x
 :
 ByteArray),
 ∃
 (x
 :
 ByteArray),
 ∃
 (x
 :
 ByteArray),
 ∃
 (x
 :
 Int),
 ∃
 (x
 :
 Int),
 ∃
 (x
 :
 ByteArray),
 ∃
 (p
 :
 Option
 Addr),
 ∃
 (n
 :
 Nat),
 ∃
 (c
 :
 Nat),
 ∃
 (x
 :
 ByteArray),
 True ∧
 S
 w' ∧
 KeptL
 [n_2,
 n_1]
 W
 w' ∧
 R
 (Ending.returned
 (Value.bool
 false))
 w')) ∧
 ∀ (n_6 : Nat) (w1_1 : World),
 NewB w1
 (Obj.cells
 #[Value.string (ByteArray.mk #[]), Value.string (ByteArray.mk #[]),
 Value.string (ByteArray.mk #[]), Value.string (ByteArray.mk #[]),
 Value.int IntKind.i64 0, Value.int IntKind.i64 0,
 Value.string (ByteArray.mk #[]), Value.slice none 0 0,
 Value.string (ByteArray.mk #[])]
 29)
 n_6 w1_1 →
 S w1_1 ∧
 CallsS Tryd.prog 8
 #[Value.agg
 #[Value.string x, Value.string x_1, Value.string x_2, Value.string x_3,
 Value.int IntKind.i64 x_4, Value.int IntKind.i64 x_5, Value.string x_6,
 Value.slice p n_3 c, Value.string x_7]]
 w1_1 fun (e : Ending) (w' : World) =>
 ∃ (x : ByteArray),
 ∃ (x_16 : ByteArray),
 ∃ (x_17 : ByteArray),
 ∃ (x_18 : ByteArray),
 ∃ (x_19 : Int),
 ∃ (x_20 : Int),
 ∃ (x_21 : ByteArray),
 ∃ (p : Option Addr),
 ∃ (n_7 : Nat),
 ∃ (c : Nat),
 ∃ (x_22 : ByteArray),
 e =
 Ending.returned
 (Value.agg
 #[Value.string x, Value.string x_16, Value.string x_17,
 Value.string x_18, Value.int IntKind.i64 x_19,
 Value.int IntKind.i64 x_20, Value.string x_21,
 Value.slice p n_7 c, Value.string x_22]) ∧
 S w' ∧
 CallsS Tryd.prog 8
 #[Value.agg
 #[Value.string x_8, Value.string x_9, Value.string x_10,
 Value.string x_11, Value.int IntKind.i64 x_12,
 Value.int IntKind.i64 x_13, Value.string x_14,
 Value.slice p_1 n_4 c_1, Value.string x_15]]
 w' fun (e : Ending) (w' : World) =>
 ∃ (x_23 : ByteArray),
 ∃ (x_24 : ByteArray),
 ∃ (x_25 : ByteArray),
 ∃ (x_26 : ByteArray),
 ∃ (x_27 : Int),
 ∃ (x_28 : Int),
 ∃ (x_29 : ByteArray),
 ∃ (p_2 : Option Addr),
 ∃ (n_8 : Nat),
 ∃ (c_2 : Nat),
 ∃ (x_30 : ByteArray),
 e =
 Ending.returned
 (Value.agg
 #[Value.string x_23, Value.string x_24,
 Value.string x_25, Value.string x_26,
 Value.int IntKind.i64 x_27,
 Value.int IntKind.i64 x_28, Value.string x_29,
 Value.slice p_2 n_8 c_2, Value.string x_30]) ∧
 WrL w' n_6 0 9 ∧
 ∀ (w1 : World),
 PutB w' n_6 0
 [Value.string x, Value.string x_16,
 Value.string x_17, Value.string x_18,
 Value.int IntKind.i64 x_19,
 Value.int IntKind.i64 x_20, Value.string x_21,
 Value.slice p n_7 c, Value.string x_22]
 w1 →
 WrL w1 n_5 0 9 ∧
 ∀ (w1_2 : World),
 PutB w1 n_5 0
 [Value.string x_23, Value.string x_24,
 Value.string x_25, Value.string x_26,
 Value.int IntKind.i64 x_27,
 Value.int IntKind.i64 x_28, Value.string x_29,
 Value.slice p_2 n_8 c_2, Value.string x_30]
 w1_2 →
 KeptL [n_2, n_1] W w1_2 ∧
 ∀ (W : World),
 Loc w.heap.size
 [Blk.mk n_2 26
 [Value.string fuy, Value.string fsy,
 Value.string tuy, Value.string tsy,
 Value.int IntKind.i64 ny,
 Value.int IntKind.i64 dy, Value.string sjy,
 Value.slice hpy hny hcy, Value.string bdy]
 0,
 Blk.mk n_1 26
 [Value.string fu, Value.string fs,
 Value.string tu, Value.string ts,
 Value.int IntKind.i64 n,
 Value.int IntKind.i64 d, Value.string sj,
 Value.slice hp hn hc, Value.string bd]
 0]
 w1_2 W →
 ∃ (S : World → Prop),
 S W ∧
 CallsS Tryd.prog 13 #[] W
 fun (e : Ending) (w' : World) =>
 ∃ (x : Bool),
 e = Ending.returned (Value.bool x) ∧
 S w' ∧
 ∃ (x_31 : ByteArray),
 ∃ (x_32 : ByteArray),
 ∃ (x_33 : ByteArray),
 ∃ (x_34 : ByteArray),
 ∃ (x_35 : Int),
 ∃ (x_36 : Int),
 ∃ (x_37 : ByteArray),
 ∃ (p : Option Addr),
 ∃ (n : Nat),
 ∃ (c : Nat),
 ∃ (x_38 : ByteArray),
 gimp x
 (∀ (w' : World),
 S w' →
 AtL w' n_6 0
 [Value.string x_31,
 Value.string x_32,
 Value.string x_33,
 Value.string x_34,
 Value.int IntKind.i64
 x_35,
 Value.int IntKind.i64
 x_36,
 Value.string x_37,
 Value.slice p n c,
 Value.string x_38]) ∧
 ∃ (x_39 : ByteArray),
 ∃ (x_40 : ByteArray),
 ∃ (x_41 : ByteArray),
 ∃ (x_42 : ByteArray),
 ∃ (x_43 : Int),
 ∃ (x_44 : Int),
 ∃ (x_45 : ByteArray),
 ∃ (p_3 : Option Addr),
 ∃ (n_9 : Nat),
 ∃ (c_3 : Nat),
 ∃ (x_46 :
 ByteArray),
 gimp x
 (∀ (w' : World),
 S w' →
 AtL w' n_6 0
 [Value.string
 x_39,
 Value.string
 x_40,
 Value.string
 x_41,
 Value.string
 x_42,
 Value.int
 IntKind.i64
 x_43,
 Value.int
 IntKind.i64
 x_44,
 Value.string
 x_45,
 Value.slice
 p_3 n_9
 c_3,
 Value.string
 x_46]) ∧
 bsp x
 (CallsS
 Tryd.prog 14
 #[Value.agg
 #[Value.string
 x_31,
 Value.string
 x_32,
 Value.string
 x_33,
 Value.string
 x_34,
 Value.int
 IntKind.i64
 x_35,
 Value.int
 IntKind.i64
 x_36,
 Value.string
 x_37,
 Value.slice
 p n c,
 Value.string
 x_38]]
 w'
 fun
 (e : Ending)
 (w' :
 World) =>
 ∃ (x : Int),
 e =
 Ending.returned
 (Value.int
 IntKind.i64
 x) ∧
 S w' ∧
 CallsS
 Tryd.prog
 11
 #[Value.agg
 #[Value.string
 x_39,
 Value.string
 x_40,
 Value.string
 x_41,
 Value.string
 x_42,
 Value.int
 IntKind.i64
 x_43,
 Value.int
 IntKind.i64
 x_44,
 Value.string
 x_45,
 Value.slice
 p_3 n_9
 c_3,
 Value.string
 x_46]]
 w'
 fun
 (e :
 Ending)
 (w' :
 World) =>
 ∃ (x_47 :
 ByteArray),
 ∃ (x_48 :
 ByteArray),
 ∃ (x_49 :
 ByteArray),
 ∃ (x_50
 :
 ByteArray),
 ∃ (x_51
 :
 Int),
 ∃
 (x_52
 :
 Int),
 ∃
 (x_53
 :
 ByteArray),
 ∃ (p
 :
 Option
 Addr),
 ∃
 (n
 :
 Nat),
 ∃
 (c
 :
 Nat),
 ∃
 (x_54
 :
 ByteArray),
 e =
 Ending.returned
 (Value.agg
 #[Value.string
 x_47,
 Value.string
 x_48,
 Value.string
 x_49,
 Value.string
 x_50,
 Value.int
 IntKind.i64
 x_51,
 Value.int
 IntKind.i64
 x_52,
 Value.string
 x_53,
 Value.slice
 p
 n
 c,
 Value.string
 x_54]) ∧
 S
 w' ∧
 CallsS
 Tryd.prog
 15
 #[Value.agg
 #[Value.string
 x_47,
 Value.string
 x_48,
 Value.string
 x_49,
 Value.string
 x_50,
 Value.int
 IntKind.i64
 x_51,
 Value.int
 IntKind.i64
 x_52,
 Value.string
 x_53,
 Value.slice
 p
 n
 c,
 Value.string
 x_54]]
 w'
 fun
 (e :
 Ending)
 (w' :
 World) =>
 ∃
 (x_55
 :
 Int),
 e =
 Ending.returned
 (Value.int
 IntKind.i64
 x_55) ∧
 S
 w' ∧
 ∃
 (x_56
 :
 ByteArray),
 ∃
 (x_57
 :
 ByteArray),
 ∃
 (x_58
 :
 ByteArray),
 ∃
 (x_59
 :
 ByteArray),
 ∃
 (x_60
 :
 Int),
 ∃
 (x_61
 :
 Int),
 ∃
 (x_62
 :
 ByteArray),
 ∃
 (p
 :
 Option
 Addr),
 ∃
 (n
 :
 Nat),
 ∃
 (c
 :
 Nat),
 ∃
 (x_63
 :
 ByteArray),
 gimp
 (true &&
 x ==
 x_55)
 (∀
 (w' :
 World),
 S
 w' →
 AtL
 w'
 n_6
 0
 [Value.string
 x_56,
 Value.string
 x_57,
 Value.string
 x_58,
 Value.string
 x_59,
 Value.int
 IntKind.i64
 x_60,
 Value.int
 IntKind.i64
 x_61,
 Value.string
 x_62,
 Value.slice
 p
 n
 c,
 Value.string
 x_63]) ∧
 ∃
 (x_64
 :
 ByteArray),
 ∃
 (x_65
 :
 ByteArray),
 ∃
 (x_66
 :
 ByteArray),
 ∃
 (x_67
 :
 ByteArray),
 ∃
 (x_68
 :
 Int),
 ∃
 (x_69
 :
 Int),
 ∃
 (x_70
 :
 ByteArray),
 ∃
 (p_4
 :
 Option
 Addr),
 ∃
 (n_10
 :
 Nat),
 ∃
 (c_4
 :
 Nat),
 ∃
 (x_71
 :
 ByteArray),
 gimp
 (true &&
 x ==
 x_55)
 (∀
 (w' :
 World),
 S
 w' →
 AtL
 w'
 n_5
 0
 [Value.string
 x_64,
 Value.string
 x_65,
 Value.string
 x_66,
 Value.string
 x_67,
 Value.int
 IntKind.i64
 x_68,
 Value.int
 IntKind.i64
 x_69,
 Value.string
 x_70,
 Value.slice
 p_4
 n_10
 c_4,
 Value.string
 x_71]) ∧
 ∃
 (x_72
 :
 ByteArray),
 ∃
 (x_73
 :
 ByteArray),
 ∃
 (x_74
 :
 ByteArray),
 ∃
 (x_75
 :
 ByteArray),
 ∃
 (x_76
 :
 Int),
 ∃
 (x_77
 :
 Int),
 ∃
 (x_78
 :
 ByteArray),
 ∃
 (p_5
 :
 Option
 Addr),
 ∃
 (n_11
 :
 Nat),
 ∃
 (c_5
 :
 Nat),
 ∃
 (x_79
 :
 ByteArray),
 gimp
 (true &&
 x ==
 x_55)
 (∀
 (w' :
 World),
 S
 w' →
 AtL
 w'
 n_6
 0
 [Value.string
 x_72,
 Value.string
 x_73,
 Value.string
 x_74,
 Value.string
 x_75,
 Value.int
 IntKind.i64
 x_76,
 Value.int
 IntKind.i64
 x_77,
 Value.string
 x_78,
 Value.slice
 p_5
 n_11
 c_5,
 Value.string
 x_79]) ∧
 ∃
 (x_80
 :
 ByteArray),
 ∃
 (x_81
 :
 ByteArray),
 ∃
 (x_82
 :
 ByteArray),
 ∃
 (x_83
 :
 ByteArray),
 ∃
 (x_84
 :
 Int),
 ∃
 (x_85
 :
 Int),
 ∃
 (x_86
 :
 ByteArray),
 ∃
 (p_6
 :
 Option
 Addr),
 ∃
 (n_12
 :
 Nat),
 ∃
 (c_6
 :
 Nat),
 ∃
 (x_87
 :
 ByteArray),
 gimp
 (true &&
 x ==
 x_55)
 (∀
 (w' :
 World),
 S
 w' →
 AtL
 w'
 n_5
 0
 [Value.string
 x_80,
 Value.string
 x_81,
 Value.string
 x_82,
 Value.string
 x_83,
 Value.int
 IntKind.i64
 x_84,
 Value.int
 IntKind.i64
 x_85,
 Value.string
 x_86,
 Value.slice
 p_6
 n_12
 c_6,
 Value.string
 x_87]) ∧
 bsp
 (true &&
 x ==
 x_55)
 (CallsS
 Tryd.prog
 16
 #[Value.agg
 #[Value.string
 x_56,
 Value.string
 x_57,
 Value.string
 x_58,
 Value.string
 x_59,
 Value.int
 IntKind.i64
 x_60,
 Value.int
 IntKind.i64
 x_61,
 Value.string
 x_62,
 Value.slice
 p
 n
 c,
 Value.string
 x_63],
 Value.agg
 #[Value.string
 x_64,
 Value.string
 x_65,
 Value.string
 x_66,
 Value.string
 x_67,
 Value.int
 IntKind.i64
 x_68,
 Value.int
 IntKind.i64
 x_69,
 Value.string
 x_70,
 Value.slice
 p_4
 n_10
 c_4,
 Value.string
 x_71]]
 w'
 fun
 (e :
 Ending)
 (w' :
 World) =>
 ∃
 (x
 :
 Bool),
 e =
 Ending.returned
 (Value.bool
 x) ∧
 S
 w' ∧
 CallsS
 Tryd.prog
 11
 #[Value.agg
 #[Value.string
 x_72,
 Value.string
 x_73,
 Value.string
 x_74,
 Value.string
 x_75,
 Value.int
 IntKind.i64
 x_76,
 Value.int
 IntKind.i64
 x_77,
 Value.string
 x_78,
 Value.slice
 p_5
 n_11
 c_5,
 Value.string
 x_79]]
 w'
 fun
 (e :
 Ending)
 (w' :
 World) =>
 ∃
 (x_88
 :
 ByteArray),
 ∃
 (x_89
 :
 ByteArray),
 ∃
 (x_90
 :
 ByteArray),
 ∃
 (x_91
 :
 ByteArray),
 ∃
 (x_92
 :
 Int),
 ∃
 (x_93
 :
 Int),
 ∃
 (x_94
 :
 ByteArray),
 ∃
 (p
 :
 Option
 Addr),
 ∃
 (n
 :
 Nat),
 ∃
 (c
 :
 Nat),
 ∃
 (x_95
 :
 ByteArray),
 e =
 Ending.returned
 (Value.agg
 #[Value.string
 x_88,
 Value.string
 x_89,
 Value.string
 x_90,
 Value.string
 x_91,
 Value.int
 IntKind.i64
 x_92,
 Value.int
 IntKind.i64
 x_93,
 Value.string
 x_94,
 Value.slice
 p
 n
 c,
 Value.string
 x_95]) ∧
 S
 w' ∧
 CallsS
 Tryd.prog
 11
 #[Value.agg
 #[Value.string
 x_80,
 Value.string
 x_81,
 Value.string
 x_82,
 Value.string
 x_83,
 Value.int
 IntKind.i64
 x_84,
 Value.int
 IntKind.i64
 x_85,
 Value.string
 x_86,
 Value.slice
 p_6
 n_12
 c_6,
 Value.string
 x_87]]
 w'
 fun
 (e :
 Ending)
 (w' :
 World) =>
 ∃
 (x_96
 :
 ByteArray),
 ∃
 (x_97
 :
 ByteArray),
 ∃
 (x_98
 :
 ByteArray),
 ∃
 (x_99
 :
 ByteArray),
 ∃
 (x_100
 :
 Int),
 ∃
 (x_101
 :
 Int),
 ∃
 (x_102
 :
 ByteArray),
 ∃
 (p_7
 :
 Option
 Addr),
 ∃
 (n_13
 :
 Nat),
 ∃
 (c_7
 :
 Nat),
 ∃
 (x_103
 :
 ByteArray),
 e =
 Ending.returned
 (Value.agg
 #[Value.string
 x_96,
 Value.string
 x_97,
 Value.string
 x_98,
 Value.string
 x_99,
 Value.int
 IntKind.i64
 x_100,
 Value.int
 IntKind.i64
 x_101,
 Value.string
 x_102,
 Value.slice
 p_7
 n_13
 c_7,
 Value.string
 x_103]) ∧
 S
 w' ∧
 CallsS
 Tryd.prog
 12
 #[Value.agg
 #[Value.string
 x_88,
 Value.string
 x_89,
 Value.string
 x_90,
 Value.string
 x_91,
 Value.int
 IntKind.i64
 x_92,
 Value.int
 IntKind.i64
 x_93,
 Value.string
 x_94,
 Value.slice
 p
 n
 c,
 Value.string
 x_95],
 Value.agg
 #[Value.string
 x_96,
 Value.string
 x_97,
 Value.string
 x_98,
 Value.string
 x_99,
 Value.int
 IntKind.i64
 x_100,
 Value.int
 IntKind.i64
 x_101,
 Value.string
 x_102,
 Value.slice
 p_7
 n_13
 c_7,
 Value.string
 x_103]]
 w'
 fun
 (e :
 Ending)
 (w' :
 World) =>
 ∃
 (x_104
 :
 Bool),
 e =
 Ending.returned
 (Value.bool
 x_104) ∧
 S
 w' ∧
 ∃
 (x_105
 :
 ByteArray),
 ∃
 (x_106
 :
 ByteArray),
 ∃
 (x_107
 :
 ByteArray),
 ∃
 (x_108
 :
 ByteArray),
 ∃
 (x_109
 :
 Int),
 ∃
 (x_110
 :
 Int),
 ∃
 (x_111
 :
 ByteArray),
 ∃
 (p
 :
 Option
 Addr),
 ∃
 (n
 :
 Nat),
 ∃
 (c
 :
 Nat),
 ∃
 (x_112
 :
 ByteArray),
 gimp
 (true &&
 x ==
 x_104)
 (∀
 (w' :
 World),
 S
 w' →
 AtL
 w'
 n_6
 0
 [Value.string
 x_105,
 Value.string
 x_106,
 Value.string
 x_107,
 Value.string
 x_108,
 Value.int
 IntKind.i64
 x_109,
 Value.int
 IntKind.i64
 x_110,
 Value.string
 x_111,
 Value.slice
 p
 n
 c,
 Value.string
 x_112]) ∧
 ∃
 (x_113
 :
 ByteArray),
 ∃
 (x_114
 :
 ByteArray),
 ∃
 (x_115
 :
 ByteArray),
 ∃
 (x_116
 :
 ByteArray),
 ∃
 (x_117
 :
 Int),
 ∃
 (x_118
 :
 Int),
 ∃
 (x_119
 :
 ByteArray),
 ∃
 (p_8
 :
 Option
 Addr),
 ∃
 (n_14
 :
 Nat),
 ∃
 (c_8
 :
 Nat),
 ∃
 (x_120
 :
 ByteArray),
 gimp
 (true &&
 x ==
 x_104)
 (∀
 (w' :
 World),
 S
 w' →
 AtL
 w'
 n_1
 0
 [Value.string
 x_113,
 Value.string
 x_114,
 Value.string
 x_115,
 Value.string
 x_116,
 Value.int
 IntKind.i64
 x_117,
 Value.int
 IntKind.i64
 x_118,
 Value.string
 x_119,
 Value.slice
 p_8
 n_14
 c_8,
 Value.string
 x_120]) ∧
 bsp
 (true &&
 x ==
 x_104)
 (CallsS
 Tryd.prog
 8
 #[Value.agg
 #[Value.string
 x_113,
 Value.string
 x_114,
 Value.string
 x_115,
 Value.string
 x_116,
 Value.int
 IntKind.i64
 x_117,
 Value.int
 IntKind.i64
 x_118,
 Value.string
 x_119,
 Value.slice
 p_8
 n_14
 c_8,
 Value.string
 x_120]]
 w'
 fun
 (e :
 Ending)
 (w' :
 World) =>
 ∃
 (x
 :
 ByteArray),
 ∃
 (x_121
 :
 ByteArray),
 ∃
 (x_122
 :
 ByteArray),
 ∃
 (x_123
 :
 ByteArray),
 ∃
 (x_124
 :
 Int),
 ∃
 (x_125
 :
 Int),
 ∃
 (x_126
 :
 ByteArray),
 ∃
 (p_9
 :
 Option
 Addr),
 ∃
 (n_15
 :
 Nat),
 ∃
 (c_9
 :
 Nat),
 ∃
 (x_127
 :
 ByteArray),
 e =
 Ending.returned
 (Value.agg
 #[Value.string
 x,
 Value.string
 x_121,
 Value.string
 x_122,
 Value.string
 x_123,
 Value.int
 IntKind.i64
 x_124,
 Value.int
 IntKind.i64
 x_125,
 Value.string
 x_126,
 Value.slice
 p_9
 n_15
 c_9,
 Value.string
 x_127]) ∧
 S
 w' ∧
 CallsS
 Tryd.prog
 16
 #[Value.agg
 #[Value.string
 x_105,
 Value.string
 x_106,
 Value.string
 x_107,
 Value.string
 x_108,
 Value.int
 IntKind.i64
 x_109,
 Value.int
 IntKind.i64
 x_110,
 Value.string
 x_111,
 Value.slice
 p
 n
 c,
 Value.string
 x_112],
 Value.agg
 #[Value.string
 x,
 Value.string
 x_121,
 Value.string
 x_122,
 Value.string
 x_123,
 Value.int
 IntKind.i64
 x_124,
 Value.int
 IntKind.i64
 x_125,
 Value.string
 x_126,
 Value.slice
 p_9
 n_15
 c_9,
 Value.string
 x_127]]
 w'
 fun
 (e :
 Ending)
 (w' :
 World) =>
 ∃
 (x
 :
 Bool),
 e =
 Ending.returned
 (Value.bool
 x) ∧
 KeptL
 [n_2,
 n_1]
 W
 w' ∧
 R
 (Ending.returned
 (Value.bool
 (true &&
 x)))
 w')
 (S
 w' ∧
 KeptL
 [n_2,
 n_1]
 W
 w' ∧
 R
 (Ending.returned
 (Value.bool
 false))
 w'))
 (S
 w' ∧
 S
 w' ∧
 S
 w' ∧
 S
 w' ∧
 ∃
 (x
 :
 ByteArray),
 ∃
 (x
 :
 ByteArray),
 ∃
 (x
 :
 ByteArray),
 ∃
 (x
 :
 ByteArray),
 ∃
 (x
 :
 Int),
 ∃
 (x
 :
 Int),
 ∃
 (x
 :
 ByteArray),
 ∃
 (p
 :
 Option
 Addr),
 ∃
 (n
 :
 Nat),
 ∃
 (c
 :
 Nat),
 ∃
 (x
 :
 ByteArray),
 True ∧
 ∃
 (x
 :
 ByteArray),
 ∃
 (x
 :
 ByteArray),
 ∃
 (x
 :
 ByteArray),
 ∃
 (x
 :
 ByteArray),
 ∃
 (x
 :
 Int),
 ∃
 (x
 :
 Int),
 ∃
 (x
 :
 ByteArray),
 ∃
 (p
 :
 Option
 Addr),
 ∃
 (n
 :
 Nat),
 ∃
 (c
 :
 Nat),
 ∃
 (x
 :
 ByteArray),
 True ∧
 S
 w' ∧
 KeptL
 [n_2,
 n_1]
 W
 w' ∧
 R
 (Ending.returned
 (Value.bool
 false))
 w'))
 (S w' ∧
 S w' ∧
 S w' ∧
 ∃ (x :
 ByteArray),
 ∃ (x :
 ByteArray),
 ∃ (x :
 ByteArray),
 ∃ (x :
 ByteArray),
 ∃ (x :
 Int),
 ∃ (x :
 Int),
 ∃ (x :
 ByteArray),
 ∃ (p :
 Option
 Addr),
 ∃ (n
 :
 Nat),
 ∃ (c
 :
 Nat),
 ∃
 (x
 :
 ByteArray),
 True ∧
 ∃
 (x
 :
 ByteArray),
 ∃
 (x
 :
 ByteArray),
 ∃
 (x
 :
 ByteArray),
 ∃
 (x
 :
 ByteArray),
 ∃
 (x
 :
 Int),
 ∃
 (x
 :
 Int),
 ∃
 (x
 :
 ByteArray),
 ∃
 (p
 :
 Option
 Addr),
 ∃
 (n
 :
 Nat),
 ∃
 (c
 :
 Nat),
 ∃
 (x
 :
 ByteArray),
 True ∧
 ∃
 (x
 :
 ByteArray),
 ∃
 (x
 :
 ByteArray),
 ∃
 (x
 :
 ByteArray),
 ∃
 (x
 :
 ByteArray),
 ∃
 (x
 :
 Int),
 ∃
 (x
 :
 Int),
 ∃
 (x
 :
 ByteArray),
 ∃
 (p
 :
 Option
 Addr),
 ∃
 (n
 :
 Nat),
 ∃
 (c
 :
 Nat),
 ∃
 (x
 :
 ByteArray),
 True ∧
 ∃
 (x
 :
 ByteArray),
 ∃
 (x
 :
 ByteArray),
 ∃
 (x
 :
 ByteArray),
 ∃
 (x
 :
 ByteArray),
 ∃
 (x
 :
 Int),
 ∃
 (x
 :
 Int),
 ∃
 (x
 :
 ByteArray),
 ∃
 (p
 :
 Option
 Addr),
 ∃
 (n
 :
 Nat),
 ∃
 (c
 :
 Nat),
 ∃
 (x
 :
 ByteArray),
 True ∧
 S
 w' ∧
 S
 w' ∧
 S
 w' ∧
 S
 w' ∧
 ∃
 (x
 :
 ByteArray),
 ∃
 (x
 :
 ByteArray),
 ∃
 (x
 :
 ByteArray),
 ∃
 (x
 :
 ByteArray),
 ∃
 (x
 :
 Int),
 ∃
 (x
 :
 Int),
 ∃
 (x
 :
 ByteArray),
 ∃
 (p
 :
 Option
 Addr),
 ∃
 (n
 :
 Nat),
 ∃
 (c
 :
 Nat),
 ∃
 (x
 :
 ByteArray),
 True ∧
 ∃
 (x
 :
 ByteArray),
 ∃
 (x
 :
 ByteArray),
 ∃
 (x
 :
 ByteArray),
 ∃
 (x
 :
 ByteArray),
 ∃
 (x
 :
 Int),
 ∃
 (x
 :
 Int),
 ∃
 (x
 :
 ByteArray),
 ∃
 (p
 :
 Option
 Addr),
 ∃
 (n
 :
 Nat),
 ∃
 (c
 :
 Nat),
 ∃
 (x
 :
 ByteArray),
 True ∧
 S
 w' ∧
 KeptL
 [n_2,
 n_1]
 W
 w' ∧
 R
 (Ending.returned
 (Value.bool
 false))
 w')
theorem vc_lchecks (fu : ByteArray) (fs : ByteArray) (tu : ByteArray) (ts : ByteArray) (n : Int) (d : Int) (sj : ByteArray) (hp : Option Addr) (hn : Nat) (hc : Nat) (bd : ByteArray) (fuy : ByteArray) (fsy : ByteArray) (tuy : ByteArray) (tsy : ByteArray) (ny : Int) (dy : Int) (sjy : ByteArray) (hpy : Option Addr) (hny : Nat) (hcy : Nat) (bdy : ByteArray) (w : World) (R : Ending → World → Prop) (h : VC_lchecks fu fs tu ts n d sj hp hn hc bd fuy fsy tuy tsy ny dy sjy hpy hny hcy bdy w R) : Calls Tryd.prog 4 ([Value.agg
    #[Value.string fu, Value.string fs, Value.string tu, Value.string ts, Value.int IntKind.i64 n,
      Value.int IntKind.i64 d, Value.string sj, Value.slice hp hn hc, Value.string bd],
  Value.agg
    #[Value.string fuy, Value.string fsy, Value.string tuy, Value.string tsy, Value.int IntKind.i64 ny,
      Value.int IntKind.i64 dy, Value.string sjy, Value.slice hpy hny hcy,
      Value.string bdy]] : List Value).toArray w R := by
  have e : execR2 { P := Tryd.prog, loops := [], pur := purM, tails := [(1, 1), (2, 0)], joins := [], boxes := [] } Tryd.f4.results.toList R (Tryd.f4.body.getD .skip) (initF [Value.agg
    #[Value.string fu, Value.string fs, Value.string tu, Value.string ts, Value.int IntKind.i64 n,
      Value.int IntKind.i64 d, Value.string sj, Value.slice hp hn hc, Value.string bd],
  Value.agg
    #[Value.string fuy, Value.string fsy, Value.string tuy, Value.string tsy, Value.int IntKind.i64 ny,
      Value.int IntKind.i64 dy, Value.string sjy, Value.slice hpy hny hcy,
      Value.string
        bdy]] (Tryd.f4.ntmps - ([Value.agg
    #[Value.string fu, Value.string fs, Value.string tu, Value.string ts, Value.int IntKind.i64 n,
      Value.int IntKind.i64 d, Value.string sj, Value.slice hp hn hc, Value.string bd],
  Value.agg
    #[Value.string fuy, Value.string fsy, Value.string tuy, Value.string tsy, Value.int IntKind.i64 ny,
      Value.int IntKind.i64 dy, Value.string sjy, Value.slice hpy hny hcy,
      Value.string
        bdy]] : List Value).length)) w = VC_lchecks fu fs tu ts n d sj hp hn hc bd fuy fsy tuy tsy ny dy sjy hpy hny hcy bdy w R := by kernel_rfl
  have hb : Tryd.f4.body = some (Tryd.f4.body.getD .skip) := by kernel_rfl
  exact calls_of_exec2' (P := Tryd.prog) (fn := Tryd.f4) (c := Tryd.f4.body.getD .skip) (args := [Value.agg
    #[Value.string fu, Value.string fs, Value.string tu, Value.string ts, Value.int IntKind.i64 n,
      Value.int IntKind.i64 d, Value.string sj, Value.slice hp hn hc, Value.string bd],
  Value.agg
    #[Value.string fuy, Value.string fsy, Value.string tuy, Value.string tsy, Value.int IntKind.i64 ny,
      Value.int IntKind.i64 dy, Value.string sjy, Value.slice hpy hny hcy,
      Value.string bdy]]) (w := w) (R := R) purM_ok Tryd.func4 hb e h

end Go.Proofs.YtmlmdljnfokebaaDoor
