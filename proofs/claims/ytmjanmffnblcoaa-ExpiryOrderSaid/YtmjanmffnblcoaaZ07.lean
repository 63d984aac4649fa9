/- The formulas of functions by the symbolic evaluator, and that each gives the call's contract. Written by a program (gen.py). No condition. -/
import Derived.Test.YtmjanmffnblcoaaProg
import Derived.Test.YtmjanmffnblcoaaZ02
import Derived.Test.YtmjanmffnblcoaaZ04
import Derived.KernelRfl
import Derived.Test.YtmjanmffnblcoaaZ05
import Derived.Test.YtmjanmffnblcoaaZ06
namespace Go.Proofs.Ytmjanmffnblcoaa
set_option maxRecDepth 100000
set_option linter.unusedVariables false

def VC_ecompile (p : Option Addr) (n : Nat) (c : Nat) (w : World) (R : Ending → World → Prop) : Prop :=
 ∀ (n_1 : Nat),
 bsp (decide ((↑n : Int) > 64))
 (∀ (W : World),
 Loc w.heap.size [Blk.mk n_1 72 [Value.slice none 0 0, Value.slice none 0 0] (wrM 2)] w W →
 R
 (Ending.returned (Value.tuple #[Value.agg #[Value.slice none 0 0, Value.slice none 0 0], Value.int IntKind.i64 9]))
 W)
 (∀ (n_2 : Nat) (W : World),
 Loc w.heap.size
 [Blk.mk n_2 72 [Value.slice p n c, Value.slice none 0 0] (wrM 2),
 Blk.mk n_1 72 [Value.slice none 0 0, Value.slice none 0 0] 2]
 w W →
 ∃ (I : List Value → World → Prop),
 ∃ (m : List Value → World → Nat),
 I [Value.int IntKind.i64 0] W ∧
 ∀ (x : Int) (w' : World),
 I [Value.int IntKind.i64 x] w' →
 bsp (decide (x < (↑n : Int)))
 (nn true p fun (b o : Nat) =>
 (0 ≤ x ∧ x < (↑n : Int)) ∧
 ∃ (x_1 : ByteArray),
 ∃ (x_2 : Int),
 ∃ (x_3 : Int),
 AtL w' b (o + x.toNat * 3) [Value.string x_1, Value.int IntKind.i64 x_2, Value.int IntKind.i64 x_3] ∧
 ∀ (n : Nat) (W : World),
 Loc w.heap.size
 [Blk.mk n 68 [Value.string x_1, Value.int IntKind.i64 x_2, Value.int IntKind.i64 x_3] (wrM 2)] w' W →
 CallsS Try.prog 47 #[Value.string x_1] W fun (e : Ending) (w'_1 : World) =>
 ∃ (x_4 : Option Addr),
 ∃ (x_5 : Int),
 ∃ (x_6 : Int),
 e =
 Ending.returned
 (Value.tuple #[Value.pointer x_4, Value.int IntKind.i64 x_5, Value.int IntKind.i64 x_6]) ∧
 KeptL [n] W w'_1 ∧
 bsp (x_6 != 0)
 (WrL w'_1 n_1 0 2 ∧
 ∀ (w1 : World),
 PutB w'_1 n_1 0 [Value.slice none 0 0, Value.slice none 0 0] w1 →
 KeptL [n] w'_1 w1 ∧
 ∃ (p : Option Addr),
 ∃ (n : Nat),
 ∃ (c : Nat),
 ∃ (p_1 : Option Addr),
 ∃ (n_3 : Nat),
 ∃ (c_1 : Nat),
 AtL w1 n_1 0 [Value.slice p n c, Value.slice p_1 n_3 c_1] ∧
 R
 (Ending.returned
 (Value.tuple
 #[Value.agg #[Value.slice p n c, Value.slice p_1 n_3 c_1],
 Value.int IntKind.i64 3]))
 w1)
 (∃ (x_7 : Int),
 gimp (!decide (x_2 < 0))
 (w'_1.cell? (Addr.mk n (0 + 1) none) = some (Value.int IntKind.i64 x_7)) ∧
 ∃ (x_8 : Int),
 gimp (!decide (x_2 < 0))
 (w'_1.cell? (Addr.mk n (0 + 2) none) = some (Value.int IntKind.i64 x_8)) ∧
 ∃ (x_9 : Int),
 gimp (!(decide (x_2 < 0) || decide (x_7 > x_8)))
 (w'_1.cell? (Addr.mk n (0 + 2) none) = some (Value.int IntKind.i64 x_9)) ∧
 bsp (decide (x_2 < 0) || decide (x_7 > x_8) || decide (x_9 > 36500))
 (WrL w'_1 n_1 0 2 ∧
 ∀ (w1 : World),
 PutB w'_1 n_1 0 [Value.slice none 0 0, Value.slice none 0 0] w1 →
 KeptL [n] w'_1 w1 ∧
 ∃ (p : Option Addr),
 ∃ (n : Nat),
 ∃ (c : Nat),
 ∃ (p_1 : Option Addr),
 ∃ (n_3 : Nat),
 ∃ (c_1 : Nat),
 AtL w1 n_1 0 [Value.slice p n c, Value.slice p_1 n_3 c_1] ∧
 R
 (Ending.returned
 (Value.tuple
 #[Value.agg #[Value.slice p n c, Value.slice p_1 n_3 c_1],
 Value.int IntKind.i64 2]))
 w1)
 (∃ (p : Option Addr),
 ∃ (n_3 : Nat),
 ∃ (c : Nat),
 w'_1.cell? (Addr.mk n_2 (0 + 1) none) = some (Value.slice p n_3 c) ∧
 ∀ (n_4 : Nat) (W : World),
 Loc w.heap.size
 [Blk.mk n_4 101 [Value.pointer x_4] 2,
 Blk.mk n 68
 [Value.string x_1, Value.int IntKind.i64 x_2, Value.int IntKind.i64 x_3] 0]
 w'_1 W →
 ∃ (base : Nat),
 ∃ (xs : List Value),
 W.ownsRow base 101 1 (Value.slice p n_3 c) n_3 xs ∧
 n_3 + 1 ≤ 9223372036854775807 ∧
 (n_3 + 1) * 8 ≤ 140737488355328 ∧
 base ≤ W.heap.size ∧
 ∀ (p' : Option Addr) (c' : Nat) (w'_2 : World),
 w'_2.ownsRow base 101 1 (Value.slice p' (n_3 + 1) c') (n_3 + 1)
 (xs ++ [Value.pointer x_4]) →
 W.grownBy w'_2 (Value.slice p n_3 c).ownBlock →
 (n_3 + 1 ≤ c → p' = p ∧ c' = c) →
 KeptL [n] W w'_2 ∧
 ((∃ (u : Value), w'_2.cell? (Addr.mk n_2 (0 + 1) none) = some u) ∧
 w'_2.frozen? (Addr.mk n_2 (0 + 1) none) = false) ∧
 ∀ (w1 : World),
 PutB w'_2 n_2 (0 + 1) [Value.slice p' (n_3 + 1) c'] w1 →
 KeptL [n] w'_2 w1 ∧
 I [Value.int IntKind.i64 (IntKind.i64.wrap (x + 1))] w1 ∧
 m [Value.int IntKind.i64 (IntKind.i64.wrap (x + 1))] w1 <
 m [Value.int IntKind.i64 x] w')))
 (∃ (p : Option Addr),
 ∃ (n : Nat),
 ∃ (c : Nat),
 ∃ (p_1 : Option Addr),
 ∃ (n_3 : Nat),
 ∃ (c_1 : Nat),
 AtL w' n_2 0 [Value.slice p n c, Value.slice p_1 n_3 c_1] ∧
 WrL w' n_1 0 2 ∧
 ∀ (w1 : World),
 PutB w' n_1 0 [Value.slice p n c, Value.slice p_1 n_3 c_1] w1 →
 KeptL [] w' w1 ∧
 ∃ (p : Option Addr),
 ∃ (n : Nat),
 ∃ (c : Nat),
 ∃ (p_2 : Option Addr),
 ∃ (n_4 : Nat),
 ∃ (c_2 : Nat),
 AtL w1 n_1 0 [Value.slice p n c, Value.slice p_2 n_4 c_2] ∧
 R
 (Ending.returned
 (Value.tuple
 #[Value.agg #[Value.slice p n c, Value.slice p_2 n_4 c_2], Value.int IntKind.i64 0]))
 w1))
theorem vc_ecompile (p : Option Addr) (n : Nat) (c : Nat) (w : World) (R : Ending → World → Prop) (h : VC_ecompile p n c w R) : Calls Try.prog 28 ([Value.slice
    p n c] : List Value).toArray w R := by
  have e : execR2 { P := Try.prog, loops := [(5, [(18, Ck.int IntKind.i64)])], pur := pur0, tails := [], joins := [], boxes := [] } Try.f28.results.toList R (Try.f28.body.getD .skip) (initF [Value.slice
    p n c] (Try.f28.ntmps - ([Value.slice p n c] : List Value).length)) w = VC_ecompile p n c w R := by kernel_rfl
  have hb : Try.f28.body = some (Try.f28.body.getD .skip) := by kernel_rfl
  exact calls_of_exec2' (P := Try.prog) (fn := Try.f28) (c := Try.f28.body.getD .skip) (args := [Value.slice p n
    c]) (w := w) (R := R) pur0_ok Try.func28 hb e h

def VC_eof (p : Option Addr) (n : Nat) (c : Nat) (q : Option Addr) (k : Nat) (d : Nat) (g : ByteArray) (w : World) (R : Ending → World → Prop) : Prop :=
 ∀ (n_1 n_2 : Nat) (W : World),
 Loc w.heap.size
 [Blk.mk n_2 68 [Value.string (ByteArray.mk #[]), Value.int IntKind.i64 0, Value.int IntKind.i64 0] 2,
 Blk.mk n_1 72 [Value.slice p n c, Value.slice q k d] 2]
 w W →
 ∃ (I : List Value → World → Prop),
 ∃ (m : List Value → World → Nat),
 I [Value.int IntKind.i64 (IntKind.i64.wrap ((↑n : Int) - 1))] W ∧
 ∀ (x : Int) (w' : World),
 I [Value.int IntKind.i64 x] w' →
 Loc w.heap.size [Blk.mk n_1 72 [Value.slice p n c, Value.slice q k d] 0] w' w' →
 bsp (decide (x ≥ 0))
 (nn true q fun (b o : Nat) =>
 (0 ≤ x ∧ x < (↑k : Int)) ∧
 ∃ (x_1 : Option Addr),
 w'.cell? (Addr.mk b (o + x.toNat) none) = some (Value.pointer x_1) ∧
 CallsS Try.prog 76 #[Value.pointer x_1, Value.string g] w' fun (e : Ending) (w'_1 : World) =>
 ∃ (x_2 : Bool),
 e = Ending.returned (Value.bool x_2) ∧
 KeptL [n_1] w' w'_1 ∧
 bsp x_2
 (nn true p fun (b o : Nat) =>
 (0 ≤ x ∧ x < (↑n : Int)) ∧
 ∃ (x_3 : ByteArray),
 ∃ (x_4 : Int),
 ∃ (x_5 : Int),
 AtL w'_1 b (o + x.toNat * 3)
 [Value.string x_3, Value.int IntKind.i64 x_4, Value.int IntKind.i64 x_5] ∧
 WrL w'_1 n_2 0 3 ∧
 ∀ (w1 : World),
 PutB w'_1 n_2 0 [Value.string x_3, Value.int IntKind.i64 x_4, Value.int IntKind.i64 x_5] w1 →
 KeptL [n_1] w'_1 w1 ∧
 ∃ (x : ByteArray),
 ∃ (x_6 : Int),
 ∃ (x_7 : Int),
 AtL w1 n_2 0 [Value.string x, Value.int IntKind.i64 x_6, Value.int IntKind.i64 x_7] ∧
 R
 (Ending.returned
 (Value.agg #[Value.string x, Value.int IntKind.i64 x_6, Value.int IntKind.i64 x_7]))
 w1)
 (I [Value.int IntKind.i64 (IntKind.i64.wrap (x - 1))] w'_1 ∧
 m [Value.int IntKind.i64 (IntKind.i64.wrap (x - 1))] w'_1 < m [Value.int IntKind.i64 x] w'))
 (WrL w' n_2 0 3 ∧
 ∀ (w1 : World),
 PutB w' n_2 0 [Value.string (ByteArray.mk #[]), Value.int IntKind.i64 0, Value.int IntKind.i64 36500] w1 →
 KeptL [n_1] w' w1 ∧
 ∃ (x : ByteArray),
 ∃ (x_1 : Int),
 ∃ (x_2 : Int),
 AtL w1 n_2 0 [Value.string x, Value.int IntKind.i64 x_1, Value.int IntKind.i64 x_2] ∧
 R (Ending.returned (Value.agg #[Value.string x, Value.int IntKind.i64 x_1, Value.int IntKind.i64 x_2]))
 w1)
theorem vc_eof (p : Option Addr) (n : Nat) (c : Nat) (q : Option Addr) (k : Nat) (d : Nat) (g : ByteArray) (w : World) (R : Ending → World → Prop) (h : VC_eof p n c q k d g w R) : Calls Try.prog 66 ([Value.agg
    #[Value.slice p n c, Value.slice q k d],
  Value.string g] : List Value).toArray w R := by
  have e : execR2 { P := Try.prog, loops := [(2, [(5, Ck.int IntKind.i64)])], pur := pur0, tails := [], joins := [], boxes := [] } Try.f66.results.toList R (Try.f66.body.getD .skip) (initF [Value.agg
    #[Value.slice p n c, Value.slice q k d],
  Value.string
    g] (Try.f66.ntmps - ([Value.agg #[Value.slice p n c, Value.slice q k d],
  Value.string g] : List Value).length)) w = VC_eof p n c q k d g w R := by kernel_rfl
  have hb : Try.f66.body = some (Try.f66.body.getD .skip) := by kernel_rfl
  exact calls_of_exec2' (P := Try.prog) (fn := Try.f66) (c := Try.f66.body.getD .skip) (args := [Value.agg
    #[Value.slice p n c, Value.slice q k d],
  Value.string g]) (w := w) (R := R) pur0_ok Try.func66 hb e h

def VC_edays (p : Option Addr) (n : Nat) (c : Nat) (q : Option Addr) (k : Nat) (d : Nat) (id : Nat → Int) (dt : Int) (ar : Int) (gp : Option Addr) (gn : Nat) (gc : Nat) (by_ : Int) (ct : Int) (hp : Option Addr) (hn : Nat) (hc : Nat) (wd : Bool) (w : World) (R : Ending → World → Prop) : Prop :=
 ∀ (n_1 n_2 : Nat),
 bsp ((↑gn : Int) == 0)
 (∀ (W : World),
 Loc w.heap.size
 [Blk.mk n_2 42
 (arrI IntKind.u8 id 32 0 ++ [Value.int IntKind.i64 dt, Value.int IntKind.i64 ar,
 Value.slice gp gn gc, Value.int IntKind.i64 by_, Value.int IntKind.i64 ct, Value.slice hp hn hc, Value.bool wd])
 2,
 Blk.mk n_1 72 [Value.slice p n c, Value.slice q k d] 2]
 w W →
 R (Ending.returned (Value.tuple #[Value.int IntKind.i64 0, Value.int IntKind.i64 36500])) W)
 (∀ (W : World),
 Loc w.heap.size
 [Blk.mk n_2 42
 (arrI IntKind.u8 id 32 0 ++ [Value.int IntKind.i64 dt, Value.int IntKind.i64 ar,
 Value.slice gp gn gc, Value.int IntKind.i64 by_, Value.int IntKind.i64 ct, Value.slice hp hn hc, Value.bool wd])
 2,
 Blk.mk n_1 72 [Value.slice p n c, Value.slice q k d] 2]
 w W →
 ∃ (I : List Value → World → Prop),
 ∃ (m : List Value → World → Nat),
 I [Value.int IntKind.i64 0, Value.int IntKind.i64 0, Value.int IntKind.i64 0] W ∧
 ∀ (x x_1 x_2 : Int) (w' : World),
 I [Value.int IntKind.i64 x, Value.int IntKind.i64 x_1, Value.int IntKind.i64 x_2] w' →
 Loc w.heap.size
 [Blk.mk n_2 42
 (arrI IntKind.u8 id 32 0 ++ [Value.int IntKind.i64 dt,
 Value.int IntKind.i64 ar, Value.slice gp gn gc, Value.int IntKind.i64 by_, Value.int IntKind.i64 ct,
 Value.slice hp hn hc, Value.bool wd])
 0,
 Blk.mk n_1 72 [Value.slice p n c, Value.slice q k d] 0]
 w' w' →
 bsp (decide (x < (↑gn : Int)))
 (nn true gp fun (b o : Nat) =>
 (0 ≤ x ∧ x < (↑gn : Int)) ∧
 ∃ (x_3 : ByteArray),
 w'.cell? (Addr.mk b (o + x.toNat) none) = some (Value.string x_3) ∧
 CallsS Try.prog 66 #[Value.agg #[Value.slice p n c, Value.slice q k d], Value.string x_3] w'
 fun (e : Ending) (w'_1 : World) =>
 ∃ (x_4 : ByteArray),
 ∃ (x_5 : Int),
 ∃ (x_6 : Int),
 e =
 Ending.returned
 (Value.agg #[Value.string x_4, Value.int IntKind.i64 x_5, Value.int IntKind.i64 x_6]) ∧
 KeptL [n_2, n_1] w' w'_1 ∧
 ∀ (n_3 : Nat) (W : World),
 Loc w.heap.size
 [Blk.mk n_2 42
 (arrI IntKind.u8 id 32 0 ++ [Value.int IntKind.i64 dt,
 Value.int IntKind.i64 ar, Value.slice gp gn gc, Value.int IntKind.i64 by_,
 Value.int IntKind.i64 ct, Value.slice hp hn hc, Value.bool wd])
 0,
 Blk.mk n_1 72 [Value.slice p n c, Value.slice q k d] 0,
 Blk.mk n_3 68 [Value.string x_4, Value.int IntKind.i64 x_5, Value.int IntKind.i64 x_6] (wrM 2)]
 w'_1 W →
 I
 [Value.int IntKind.i64 (IntKind.i64.wrap (x + 1)),
 Value.int IntKind.i64 (if x_6 > x_1 then x_6 else x_1),
 Value.int IntKind.i64 (if x_5 > x_2 then x_5 else x_2)]
 W ∧
 m
 [Value.int IntKind.i64 (IntKind.i64.wrap (x + 1)),
 Value.int IntKind.i64 (if x_6 > x_1 then x_6 else x_1),
 Value.int IntKind.i64 (if x_5 > x_2 then x_5 else x_2)]
 W <
 m [Value.int IntKind.i64 x, Value.int IntKind.i64 x_1, Value.int IntKind.i64 x_2] w')
 (R (Ending.returned (Value.tuple #[Value.int IntKind.i64 x_2, Value.int IntKind.i64 x_1])) w'))
theorem vc_edays (p : Option Addr) (n : Nat) (c : Nat) (q : Option Addr) (k : Nat) (d : Nat) (id : Nat → Int) (dt : Int) (ar : Int) (gp : Option Addr) (gn : Nat) (gc : Nat) (by_ : Int) (ct : Int) (hp : Option Addr) (hn : Nat) (hc : Nat) (wd : Bool) (w : World) (R : Ending → World → Prop) (h : VC_edays p n c q k d id dt ar gp gn gc by_ ct hp hn hc wd w R) : Calls Try.prog 38 ([Value.agg
    #[Value.slice p n c, Value.slice q k d],
  Value.agg
    (arrI IntKind.u8 id 32 0 ++
        [Value.int IntKind.i64 dt, Value.int IntKind.i64 ar, Value.slice gp gn gc, Value.int IntKind.i64 by_,
          Value.int IntKind.i64 ct, Value.slice hp hn hc, Value.bool wd]).toArray] : List Value).toArray w R := by
  have e : execR2 { P := Try.prog, loops := [(4, [(16, Ck.int IntKind.i64), (5, Ck.int IntKind.i64), (4, Ck.int IntKind.i64)])], pur := pur0, tails := [], joins := [], boxes := [] } Try.f38.results.toList R (Try.f38.body.getD .skip) (initF [Value.agg
    #[Value.slice p n c, Value.slice q k d],
  Value.agg
    (arrI IntKind.u8 id 32 0 ++
        [Value.int IntKind.i64 dt, Value.int IntKind.i64 ar, Value.slice gp gn gc, Value.int IntKind.i64 by_,
          Value.int IntKind.i64 ct, Value.slice hp hn hc,
          Value.bool
            wd]).toArray] (Try.f38.ntmps - ([Value.agg #[Value.slice p n c, Value.slice q k d],
  Value.agg
    (arrI IntKind.u8 id 32 0 ++
        [Value.int IntKind.i64 dt, Value.int IntKind.i64 ar, Value.slice gp gn gc, Value.int IntKind.i64 by_,
          Value.int IntKind.i64 ct, Value.slice hp hn hc,
          Value.bool
            wd]).toArray] : List Value).length)) w = VC_edays p n c q k d id dt ar gp gn gc by_ ct hp hn hc wd w R := by kernel_rfl
  have hb : Try.f38.body = some (Try.f38.body.getD .skip) := by kernel_rfl
  exact calls_of_exec2' (P := Try.prog) (fn := Try.f38) (c := Try.f38.body.getD .skip) (args := [Value.agg
    #[Value.slice p n c, Value.slice q k d],
  Value.agg
    (arrI IntKind.u8 id 32 0 ++
        [Value.int IntKind.i64 dt, Value.int IntKind.i64 ar, Value.slice gp gn gc, Value.int IntKind.i64 by_,
          Value.int IntKind.i64 ct, Value.slice hp hn hc,
          Value.bool wd]).toArray]) (w := w) (R := R) pur0_ok Try.func38 hb e h

def VC_echeck (p : Option Addr) (n : Nat) (c : Nat) (w : World) (R : Ending → World → Prop) : Prop :=
 CallsS Try.prog 28 #[Value.slice p n c] w fun (e : Ending) (w' : World) =>
 ∃ (p : Option Addr),
 ∃ (n : Nat),
 ∃ (c : Nat),
 ∃ (p_1 : Option Addr),
 ∃ (n_1 : Nat),
 ∃ (c_1 : Nat),
 ∃ (x : Int),
 e =
 Ending.returned
 (Value.tuple #[Value.agg #[Value.slice p n c, Value.slice p_1 n_1 c_1], Value.int IntKind.i64 x]) ∧
 KeptL [] w w' ∧
 ∀ (n_2 : Nat) (W : World),
 Loc w.heap.size [Blk.mk n_2 72 [Value.slice p n c, Value.slice p_1 n_1 c_1] (wrM 2)] w' W →
 R (Ending.returned (Value.int IntKind.i64 x)) W
theorem vc_echeck (p : Option Addr) (n : Nat) (c : Nat) (w : World) (R : Ending → World → Prop) (h : VC_echeck p n c w R) : Calls Try.prog 18 ([Value.slice
    p n c] : List Value).toArray w R := by
  have e : execR2 { P := Try.prog, loops := [], pur := pur0, tails := [], joins := [], boxes := [] } Try.f18.results.toList R (Try.f18.body.getD .skip) (initF [Value.slice
    p n c] (Try.f18.ntmps - ([Value.slice p n c] : List Value).length)) w = VC_echeck p n c w R := by kernel_rfl
  have hb : Try.f18.body = some (Try.f18.body.getD .skip) := by kernel_rfl
  exact calls_of_exec2' (P := Try.prog) (fn := Try.f18) (c := Try.f18.body.getD .skip) (args := [Value.slice p n
    c]) (w := w) (R := R) pur0_ok Try.func18 hb e h

def VC_eleast (p : Option Addr) (n : Nat) (c : Nat) (id : Nat → Int) (dt : Int) (ar : Int) (gp : Option Addr) (gn : Nat) (gc : Nat) (by_ : Int) (ct : Int) (hp : Option Addr) (hn : Nat) (hc : Nat) (wd : Bool) (w : World) (R : Ending → World → Prop) : Prop :=
 ∀ (n_1 : Nat) (W : World),
 Loc w.heap.size
 [Blk.mk n_1 42
 (arrI IntKind.u8 id 32 0 ++ [Value.int IntKind.i64 dt, Value.int IntKind.i64 ar,
 Value.slice gp gn gc, Value.int IntKind.i64 by_, Value.int IntKind.i64 ct, Value.slice hp hn hc, Value.bool wd])
 2]
 w W →
 CallsS Try.prog 28 #[Value.slice p n c] W fun (e : Ending) (w' : World) =>
 ∃ (p : Option Addr),
 ∃ (n : Nat),
 ∃ (c : Nat),
 ∃ (p_1 : Option Addr),
 ∃ (n_2 : Nat),
 ∃ (c_1 : Nat),
 ∃ (x : Int),
 e =
 Ending.returned
 (Value.tuple #[Value.agg #[Value.slice p n c, Value.slice p_1 n_2 c_1], Value.int IntKind.i64 x]) ∧
 KeptL [n_1] W w' ∧
 ∀ (n_3 : Nat),
 bsp (x != 0)
 (∀ (W : World),
 Loc w.heap.size
 [Blk.mk n_3 72 [Value.slice p n c, Value.slice p_1 n_2 c_1] (wrM 2),
 Blk.mk n_1 42
 (arrI IntKind.u8 id 32 0 ++ [Value.int IntKind.i64 dt,
 Value.int IntKind.i64 ar, Value.slice gp gn gc, Value.int IntKind.i64 by_, Value.int IntKind.i64 ct,
 Value.slice hp hn hc, Value.bool wd])
 0]
 w' W →
 R (Ending.returned (Value.int IntKind.i64 0)) W)
 (∀ (W : World),
 Loc w.heap.size
 [Blk.mk n_3 72 [Value.slice p n c, Value.slice p_1 n_2 c_1] (wrM 2),
 Blk.mk n_1 42
 (arrI IntKind.u8 id 32 0 ++ [Value.int IntKind.i64 dt,
 Value.int IntKind.i64 ar, Value.slice gp gn gc, Value.int IntKind.i64 by_, Value.int IntKind.i64 ct,
 Value.slice hp hn hc, Value.bool wd])
 0]
 w' W →
 CallsS Try.prog 38
 #[Value.agg #[Value.slice p n c, Value.slice p_1 n_2 c_1],
 Value.agg
 (arrI IntKind.u8 id 32 0 ++ [Value.int IntKind.i64 dt,
 Value.int IntKind.i64 ar, Value.slice gp gn gc, Value.int IntKind.i64 by_, Value.int IntKind.i64 ct,
 Value.slice hp hn hc, Value.bool wd]).toArray]
 W fun (e : Ending) (w' : World) =>
 ∃ (x : Int),
 ∃ (x_1 : Int),
 e = Ending.returned (Value.tuple #[Value.int IntKind.i64 x, Value.int IntKind.i64 x_1]) ∧
 KeptL [n_3, n_1] W w' ∧ R (Ending.returned (Value.int IntKind.i64 x)) w')
theorem vc_eleast (p : Option Addr) (n : Nat) (c : Nat) (id : Nat → Int) (dt : Int) (ar : Int) (gp : Option Addr) (gn : Nat) (gc : Nat) (by_ : Int) (ct : Int) (hp : Option Addr) (hn : Nat) (hc : Nat) (wd : Bool) (w : World) (R : Ending → World → Prop) (h : VC_eleast p n c id dt ar gp gn gc by_ ct hp hn hc wd w R) : Calls Try.prog 21 ([Value.slice
    p n c,
  Value.agg
    (arrI IntKind.u8 id 32 0 ++
        [Value.int IntKind.i64 dt, Value.int IntKind.i64 ar, Value.slice gp gn gc, Value.int IntKind.i64 by_,
          Value.int IntKind.i64 ct, Value.slice hp hn hc, Value.bool wd]).toArray] : List Value).toArray w R := by
  have e : execR2 { P := Try.prog, loops := [], pur := pur0, tails := [], joins := [], boxes := [] } Try.f21.results.toList R (Try.f21.body.getD .skip) (initF [Value.slice
    p n c,
  Value.agg
    (arrI IntKind.u8 id 32 0 ++
        [Value.int IntKind.i64 dt, Value.int IntKind.i64 ar, Value.slice gp gn gc, Value.int IntKind.i64 by_,
          Value.int IntKind.i64 ct, Value.slice hp hn hc,
          Value.bool
            wd]).toArray] (Try.f21.ntmps - ([Value.slice p n c,
  Value.agg
    (arrI IntKind.u8 id 32 0 ++
        [Value.int IntKind.i64 dt, Value.int IntKind.i64 ar, Value.slice gp gn gc, Value.int IntKind.i64 by_,
          Value.int IntKind.i64 ct, Value.slice hp hn hc,
          Value.bool
            wd]).toArray] : List Value).length)) w = VC_eleast p n c id dt ar gp gn gc by_ ct hp hn hc wd w R := by kernel_rfl
  have hb : Try.f21.body = some (Try.f21.body.getD .skip) := by kernel_rfl
  exact calls_of_exec2' (P := Try.prog) (fn := Try.f21) (c := Try.f21.body.getD .skip) (args := [Value.slice p n c,
  Value.agg
    (arrI IntKind.u8 id 32 0 ++
        [Value.int IntKind.i64 dt, Value.int IntKind.i64 ar, Value.slice gp gn gc, Value.int IntKind.i64 by_,
          Value.int IntKind.i64 ct, Value.slice hp hn hc,
          Value.bool wd]).toArray]) (w := w) (R := R) pur0_ok Try.func21 hb e h

def VC_emost (p : Option Addr) (n : Nat) (c : Nat) (id : Nat → Int) (dt : Int) (ar : Int) (gp : Option Addr) (gn : Nat) (gc : Nat) (by_ : Int) (ct : Int) (hp : Option Addr) (hn : Nat) (hc : Nat) (wd : Bool) (w : World) (R : Ending → World → Prop) : Prop :=
 ∀ (n_1 : Nat) (W : World),
 Loc w.heap.size
 [Blk.mk n_1 42
 (arrI IntKind.u8 id 32 0 ++ [Value.int IntKind.i64 dt, Value.int IntKind.i64 ar,
 Value.slice gp gn gc, Value.int IntKind.i64 by_, Value.int IntKind.i64 ct, Value.slice hp hn hc, Value.bool wd])
 2]
 w W →
 CallsS Try.prog 28 #[Value.slice p n c] W fun (e : Ending) (w' : World) =>
 ∃ (p : Option Addr),
 ∃ (n : Nat),
 ∃ (c : Nat),
 ∃ (p_1 : Option Addr),
 ∃ (n_2 : Nat),
 ∃ (c_1 : Nat),
 ∃ (x : Int),
 e =
 Ending.returned
 (Value.tuple #[Value.agg #[Value.slice p n c, Value.slice p_1 n_2 c_1], Value.int IntKind.i64 x]) ∧
 KeptL [n_1] W w' ∧
 ∀ (n_3 : Nat),
 bsp (x != 0)
 (∀ (W : World),
 Loc w.heap.size
 [Blk.mk n_3 72 [Value.slice p n c, Value.slice p_1 n_2 c_1] (wrM 2),
 Blk.mk n_1 42
 (arrI IntKind.u8 id 32 0 ++ [Value.int IntKind.i64 dt,
 Value.int IntKind.i64 ar, Value.slice gp gn gc, Value.int IntKind.i64 by_, Value.int IntKind.i64 ct,
 Value.slice hp hn hc, Value.bool wd])
 0]
 w' W →
 R (Ending.returned (Value.int IntKind.i64 0)) W)
 (∀ (W : World),
 Loc w.heap.size
 [Blk.mk n_3 72 [Value.slice p n c, Value.slice p_1 n_2 c_1] (wrM 2),
 Blk.mk n_1 42
 (arrI IntKind.u8 id 32 0 ++ [Value.int IntKind.i64 dt,
 Value.int IntKind.i64 ar, Value.slice gp gn gc, Value.int IntKind.i64 by_, Value.int IntKind.i64 ct,
 Value.slice hp hn hc, Value.bool wd])
 0]
 w' W →
 CallsS Try.prog 38
 #[Value.agg #[Value.slice p n c, Value.slice p_1 n_2 c_1],
 Value.agg
 (arrI IntKind.u8 id 32 0 ++ [Value.int IntKind.i64 dt,
 Value.int IntKind.i64 ar, Value.slice gp gn gc, Value.int IntKind.i64 by_, Value.int IntKind.i64 ct,
 Value.slice hp hn hc, Value.bool wd]).toArray]
 W fun (e : Ending) (w' : World) =>
 ∃ (x : Int),
 ∃ (x_1 : Int),
 e = Ending.returned (Value.tuple #[Value.int IntKind.i64 x, Value.int IntKind.i64 x_1]) ∧
 KeptL [n_3, n_1] W w' ∧ R (Ending.returned (Value.int IntKind.i64 x_1)) w')
theorem vc_emost (p : Option Addr) (n : Nat) (c : Nat) (id : Nat → Int) (dt : Int) (ar : Int) (gp : Option Addr) (gn : Nat) (gc : Nat) (by_ : Int) (ct : Int) (hp : Option Addr) (hn : Nat) (hc : Nat) (wd : Bool) (w : World) (R : Ending → World → Prop) (h : VC_emost p n c id dt ar gp gn gc by_ ct hp hn hc wd w R) : Calls Try.prog 22 ([Value.slice
    p n c,
  Value.agg
    (arrI IntKind.u8 id 32 0 ++
        [Value.int IntKind.i64 dt, Value.int IntKind.i64 ar, Value.slice gp gn gc, Value.int IntKind.i64 by_,
          Value.int IntKind.i64 ct, Value.slice hp hn hc, Value.bool wd]).toArray] : List Value).toArray w R := by
  have e : execR2 { P := Try.prog, loops := [], pur := pur0, tails := [], joins := [], boxes := [] } Try.f22.results.toList R (Try.f22.body.getD .skip) (initF [Value.slice
    p n c,
  Value.agg
    (arrI IntKind.u8 id 32 0 ++
        [Value.int IntKind.i64 dt, Value.int IntKind.i64 ar, Value.slice gp gn gc, Value.int IntKind.i64 by_,
          Value.int IntKind.i64 ct, Value.slice hp hn hc,
          Value.bool
            wd]).toArray] (Try.f22.ntmps - ([Value.slice p n c,
  Value.agg
    (arrI IntKind.u8 id 32 0 ++
        [Value.int IntKind.i64 dt, Value.int IntKind.i64 ar, Value.slice gp gn gc, Value.int IntKind.i64 by_,
          Value.int IntKind.i64 ct, Value.slice hp hn hc,
          Value.bool
            wd]).toArray] : List Value).length)) w = VC_emost p n c id dt ar gp gn gc by_ ct hp hn hc wd w R := by kernel_rfl
  have hb : Try.f22.body = some (Try.f22.body.getD .skip) := by kernel_rfl
  exact calls_of_exec2' (P := Try.prog) (fn := Try.f22) (c := Try.f22.body.getD .skip) (args := [Value.slice p n c,
  Value.agg
    (arrI IntKind.u8 id 32 0 ++
        [Value.int IntKind.i64 dt, Value.int IntKind.i64 ar, Value.slice gp gn gc, Value.int IntKind.i64 by_,
          Value.int IntKind.i64 ct, Value.slice hp hn hc,
          Value.bool wd]).toArray]) (w := w) (R := R) pur0_ok Try.func22 hb e h

def VC_eheld (id : Nat → Int) (dt : Int) (ar : Int) (gp : Option Addr) (gn : Nat) (gc : Nat) (by_ : Int) (ct : Int) (hp : Option Addr) (hn : Nat) (hc : Nat) (wd : Bool) (f : FuncId) (fa : Array Value) (fb : Array Value) (w : World) (R : Ending → World → Prop) : Prop :=
 ∀ (n : Nat),
 ∃ (p : Option Addr),
 ∃ (n_1 : Nat),
 ∃ (c : Nat),
 (∀ (W : World),
 Loc w.heap.size
 [Blk.mk n 42
 (arrI IntKind.u8 id 32 0 ++ [Value.int IntKind.i64 dt,
 Value.int IntKind.i64 ar, Value.slice gp gn gc, Value.int IntKind.i64 by_, Value.int IntKind.i64 ct,
 Value.slice hp hn hc, Value.bool wd])
 2]
 w W →
 W.cell? (Addr.mk n (0 + 37) none) = some (Value.slice p n_1 c)) ∧
 ∀ (W : World),
 Loc w.heap.size
 [Blk.mk n 42
 (arrI IntKind.u8 id 32 0 ++ [Value.int IntKind.i64 dt,
 Value.int IntKind.i64 ar, Value.slice gp gn gc, Value.int IntKind.i64 by_, Value.int IntKind.i64 ct,
 Value.slice hp hn hc, Value.bool wd])
 2]
 w W →
 CallsS Try.prog 33 #[Value.slice p n_1 c, Value.func (Fn.func f) fa fb] W fun (e : Ending) (w' : World) =>
 ∃ (x : Bool),
 e = Ending.returned (Value.bool x) ∧ KeptL [n] W w' ∧ R (Ending.returned (Value.bool (true && x))) w'
theorem vc_eheld (id : Nat → Int) (dt : Int) (ar : Int) (gp : Option Addr) (gn : Nat) (gc : Nat) (by_ : Int) (ct : Int) (hp : Option Addr) (hn : Nat) (hc : Nat) (wd : Bool) (f : FuncId) (fa : Array Value) (fb : Array Value) (w : World) (R : Ending → World → Prop) (h : VC_eheld id dt ar gp gn gc by_ ct hp hn hc wd f fa fb w R) : Calls Try.prog 15 ([Value.agg
    (arrI IntKind.u8 id 32 0 ++
        [Value.int IntKind.i64 dt, Value.int IntKind.i64 ar, Value.slice gp gn gc, Value.int IntKind.i64 by_,
          Value.int IntKind.i64 ct, Value.slice hp hn hc, Value.bool wd]).toArray,
  Value.func (Fn.func f) fa fb] : List Value).toArray w R := by
  have e : execR2 { P := Try.prog, loops := [], pur := pur0, tails := [], joins := [], boxes := [] } Try.f15.results.toList R (Try.f15.body.getD .skip) (initF [Value.agg
    (arrI IntKind.u8 id 32 0 ++
        [Value.int IntKind.i64 dt, Value.int IntKind.i64 ar, Value.slice gp gn gc, Value.int IntKind.i64 by_,
          Value.int IntKind.i64 ct, Value.slice hp hn hc, Value.bool wd]).toArray,
  Value.func (Fn.func f) fa
    fb] (Try.f15.ntmps - ([Value.agg
    (arrI IntKind.u8 id 32 0 ++
        [Value.int IntKind.i64 dt, Value.int IntKind.i64 ar, Value.slice gp gn gc, Value.int IntKind.i64 by_,
          Value.int IntKind.i64 ct, Value.slice hp hn hc, Value.bool wd]).toArray,
  Value.func (Fn.func f) fa
    fb] : List Value).length)) w = VC_eheld id dt ar gp gn gc by_ ct hp hn hc wd f fa fb w R := by kernel_rfl
  have hb : Try.f15.body = some (Try.f15.body.getD .skip) := by kernel_rfl
  exact calls_of_exec2' (P := Try.prog) (fn := Try.f15) (c := Try.f15.body.getD .skip) (args := [Value.agg
    (arrI IntKind.u8 id 32 0 ++
        [Value.int IntKind.i64 dt, Value.int IntKind.i64 ar, Value.slice gp gn gc, Value.int IntKind.i64 by_,
          Value.int IntKind.i64 ct, Value.slice hp hn hc, Value.bool wd]).toArray,
  Value.func (Fn.func f) fa fb]) (w := w) (R := R) pur0_ok Try.func15 hb e h

def VC_eheldN (id : Nat → Int) (dt : Int) (ar : Int) (gp : Option Addr) (gn : Nat) (gc : Nat) (by_ : Int) (ct : Int) (hp : Option Addr) (hn : Nat) (hc : Nat) (wd : Bool) (w : World) (R : Ending → World → Prop) : Prop :=
 ∀ (n : Nat),
 ∃ (p : Option Addr),
 ∃ (n_1 : Nat),
 ∃ (c : Nat),
 True ∧
 ∀ (W : World),
 Loc w.heap.size
 [Blk.mk n 42
 (arrI IntKind.u8 id 32 0 ++ [Value.int IntKind.i64 dt,
 Value.int IntKind.i64 ar, Value.slice gp gn gc, Value.int IntKind.i64 by_, Value.int IntKind.i64 ct,
 Value.slice hp hn hc, Value.bool wd])
 2]
 w W →
 KeptL [n] W W ∧ R (Ending.returned (Value.bool false)) W
theorem vc_eheldN (id : Nat → Int) (dt : Int) (ar : Int) (gp : Option Addr) (gn : Nat) (gc : Nat) (by_ : Int) (ct : Int) (hp : Option Addr) (hn : Nat) (hc : Nat) (wd : Bool) (w : World) (R : Ending → World → Prop) (h : VC_eheldN id dt ar gp gn gc by_ ct hp hn hc wd w R) : Calls Try.prog 15 ([Value.agg
    (arrI IntKind.u8 id 32 0 ++
        [Value.int IntKind.i64 dt, Value.int IntKind.i64 ar, Value.slice gp gn gc, Value.int IntKind.i64 by_,
          Value.int IntKind.i64 ct, Value.slice hp hn hc, Value.bool wd]).toArray,
  Value.nilFunc] : List Value).toArray w R := by
  have e : execR2 { P := Try.prog, loops := [], pur := pur0, tails := [], joins := [], boxes := [] } Try.f15.results.toList R (Try.f15.body.getD .skip) (initF [Value.agg
    (arrI IntKind.u8 id 32 0 ++
        [Value.int IntKind.i64 dt, Value.int IntKind.i64 ar, Value.slice gp gn gc, Value.int IntKind.i64 by_,
          Value.int IntKind.i64 ct, Value.slice hp hn hc, Value.bool wd]).toArray,
  Value.nilFunc] (Try.f15.ntmps - ([Value.agg
    (arrI IntKind.u8 id 32 0 ++
        [Value.int IntKind.i64 dt, Value.int IntKind.i64 ar, Value.slice gp gn gc, Value.int IntKind.i64 by_,
          Value.int IntKind.i64 ct, Value.slice hp hn hc, Value.bool wd]).toArray,
  Value.nilFunc] : List Value).length)) w = VC_eheldN id dt ar gp gn gc by_ ct hp hn hc wd w R := by kernel_rfl
  have hb : Try.f15.body = some (Try.f15.body.getD .skip) := by kernel_rfl
  exact calls_of_exec2' (P := Try.prog) (fn := Try.f15) (c := Try.f15.body.getD .skip) (args := [Value.agg
    (arrI IntKind.u8 id 32 0 ++
        [Value.int IntKind.i64 dt, Value.int IntKind.i64 ar, Value.slice gp gn gc, Value.int IntKind.i64 by_,
          Value.int IntKind.i64 ct, Value.slice hp hn hc, Value.bool wd]).toArray,
  Value.nilFunc]) (w := w) (R := R) pur0_ok Try.func15 hb e h

def VC_econt (p : Option Addr) (n : Nat) (c : Nat) (f : FuncId) (fa : Array Value) (fb : Array Value) (w : World) (R : Ending → World → Prop) : Prop :=
 CallsS Try.prog 63 #[Value.slice p n c, Value.func (Fn.func f) fa fb] w fun (e : Ending) (w' : World) =>
 ∃ (x : Int),
 e = Ending.returned (Value.int IntKind.i64 x) ∧ KeptL [] w w' ∧ R (Ending.returned (Value.bool (decide (x ≥ 0)))) w'
theorem vc_econt (p : Option Addr) (n : Nat) (c : Nat) (f : FuncId) (fa : Array Value) (fb : Array Value) (w : World) (R : Ending → World → Prop) (h : VC_econt p n c f fa fb w R) : Calls Try.prog 33 ([Value.slice
    p n c,
  Value.func (Fn.func f) fa fb] : List Value).toArray w R := by
  have e : execR2 { P := Try.prog, loops := [], pur := pur0, tails := [], joins := [], boxes := [] } Try.f33.results.toList R (Try.f33.body.getD .skip) (initF [Value.slice
    p n c,
  Value.func (Fn.func f) fa
    fb] (Try.f33.ntmps - ([Value.slice p n c,
  Value.func (Fn.func f) fa fb] : List Value).length)) w = VC_econt p n c f fa fb w R := by kernel_rfl
  have hb : Try.f33.body = some (Try.f33.body.getD .skip) := by kernel_rfl
  exact calls_of_exec2' (P := Try.prog) (fn := Try.f33) (c := Try.f33.body.getD .skip) (args := [Value.slice p n c,
  Value.func (Fn.func f) fa fb]) (w := w) (R := R) pur0_ok Try.func33 hb e h

def VC_eidxI (p : Option Addr) (n : Nat) (c : Nat) (f : FuncId) (fa : Array Value) (fb : Array Value) (w : World) (R : Ending → World → Prop) : Prop :=
 ∃ (I : List Value → World → Prop),
 ∃ (m : List Value → World → Nat),
 I [Value.int IntKind.i64 0] w ∧
 ∀ (x : Int) (w' : World),
 I [Value.int IntKind.i64 x] w' →
 bsp (decide (x < (↑n : Int)))
 (nn true p fun (b o : Nat) =>
 (0 ≤ x ∧ x < (↑n : Int)) ∧
 ∃ (f_1 : Nat → Int),
 AtL w' b (o + x.toNat * 32)
 (arrI IntKind.u8 f_1 32 0) ∧
 ∃ (f_2 : Nat),
 ∃ (a : Array Value),
 ∃ (b : Array Value),
 Value.func (Fn.func f) fa fb = Value.func (Fn.func f_2) a b ∧
 okFn Try.prog f_2 = true ∧
 CallsS Try.prog f_2
 (appA a
 [Value.agg
 (arrI IntKind.u8 f_1 32 0).toArray]
 b)
 w' fun (e : Ending) (w'_1 : World) =>
 ∃ (x_1 : Bool),
 e = Ending.returned (Value.bool x_1) ∧
 KeptL [] w' w'_1 ∧
 bsp x_1 (R (Ending.returned (Value.int IntKind.i64 x)) w'_1)
 (I [Value.int IntKind.i64 (IntKind.i64.wrap (x + 1))] w'_1 ∧
 m [Value.int IntKind.i64 (IntKind.i64.wrap (x + 1))] w'_1 < m [Value.int IntKind.i64 x] w'))
 (R (Ending.returned (Value.int IntKind.i64 (-1))) w')
theorem vc_eidxI (p : Option Addr) (n : Nat) (c : Nat) (f : FuncId) (fa : Array Value) (fb : Array Value) (w : World) (R : Ending → World → Prop) (h : VC_eidxI p n c f fa fb w R) : Calls Try.prog 63 ([Value.slice
    p n c,
  Value.func (Fn.func f) fa fb] : List Value).toArray w R := by
  have e : execR2 { P := Try.prog, loops := [(2, [(8, Ck.int IntKind.i64)])], pur := pur0, tails := [], joins := [], boxes := [] } Try.f63.results.toList R (Try.f63.body.getD .skip) (initF [Value.slice
    p n c,
  Value.func (Fn.func f) fa
    fb] (Try.f63.ntmps - ([Value.slice p n c,
  Value.func (Fn.func f) fa fb] : List Value).length)) w = VC_eidxI p n c f fa fb w R := by kernel_rfl
  have hb : Try.f63.body = some (Try.f63.body.getD .skip) := by kernel_rfl
  exact calls_of_exec2' (P := Try.prog) (fn := Try.f63) (c := Try.f63.body.getD .skip) (args := [Value.slice p n c,
  Value.func (Fn.func f) fa fb]) (w := w) (R := R) pur0_ok Try.func63 hb e h

end Go.Proofs.Ytmjanmffnblcoaa

/- Chapter 42: the contracts of compile, of, days, Check, Least and Most. No condition but sizes. -/
namespace Go.Proofs.Ytmjanmffnblcoaa
open Go.RowKit

def rlC (r : Rl) : List Value := [.string r.pat, .int .i64 r.lo, .int .i64 r.hi]
def ptrV (b : Nat) : Value := .pointer (some ⟨b, 0, none⟩)
/-- An article in the memory. -/
structure AX where
  id : Nat → Int
  dt : Int
  ar : Int
  gp : Option Addr
  gc : Nat
  gs : List ByteArray
  by_ : Int
  ct : Int
  hp : Option Addr
  hc : Nat
  hs : List (Nat → Int)
  wd : Bool
abbrev idL (f : Nat → Int) : List Value := arrI .u8 f 32 0
def axC (x : AX) : List Value := arrI .u8 x.id 32 0 ++ ([.int .i64 x.dt, .int .i64 x.ar, .slice x.gp x.gs.length x.gc, .int .i64 x.by_, .int .i64 x.ct, .slice x.hp x.hs.length x.hc, .bool x.wd] : List Value)
structure AXR (w : World) (x : AX) : Prop where
  gs : StrP w x.gp x.gs
  hs : RowA idL 32 w x.hp x.hs
theorem AXR.k0 {w w' : World} {x : AX} (h : AXR w x) (hk : K0 w w') : AXR w' x := ⟨h.gs.k0 hk, h.hs.k0 hk⟩
def AX.pl (x : AX) : Ar := ⟨idI x.id, x.dt, x.ar, x.gs, x.by_, x.ct, x.hs.map idI, x.wd⟩
theorem rlF_app : ∀ a b : List Rl, rlF (a ++ b) = if rlF a ≠ 0 then rlF a else rlF b
  | [], b => by simp [rlF]
  | x :: a, b => by
    have e : ∀ (y : Rl) (l : List Rl), rlF (y :: l) = if rl1 y ≠ 0 then rl1 y else rlF l := fun _ _ => rfl
    rw [List.cons_append, e, e, rlF_app a b]
    by_cases h : rl1 x = 0
    · simp [h]
    · simp [h]
theorem rlF_hit {L : List Rl} {i : Nat} {r : Rl} (h : rlF (L.take i) = 0) (hr : L[i]? = some r) (h1 : rl1 r ≠ 0) : rlF L = rl1 r := by
  have hi : i < L.length := (List.getElem?_eq_some_iff.1 hr).1
  have e : L = L.take i ++ r :: L.drop (i + 1) := by
    conv => lhs; rw [← List.take_append_drop i L]
    rw [List.drop_eq_getElem_cons hi]
    rw [List.getElem?_eq_getElem hi] at hr
    simp at hr
    rw [hr]
  rw [e, rlF_app, if_neg (by simpa using h)]
  unfold rlF
  rw [if_pos h1]
theorem rlF_next {L : List Rl} {i : Nat} {r : Rl} (h : rlF (L.take i) = 0) (hr : L[i]? = some r) (h1 : rl1 r = 0) : rlF (L.take (i + 1)) = 0 := by
  rw [take_snoc hr, rlF_app, if_neg (by simpa using h)]
  unfold rlF
  rw [if_neg (by simpa using h1)]; rfl

/-- The patterns of rules in the memory. -/
structure RlsR (N : Nat) (w : World) (q : Option Addr) (d : Nat) (L : List Rl) (bs : List Nat) : Prop where
  own : w.ownsRow N 101 1 (.slice q bs.length d) bs.length (bs.map ptrV)
  pat : ∀ (k b : Nat) (r : Rl), bs[k]? = some b → L[k]? = some r → PatR (fun k => N ≤ k) w b r.pat (elsOf r)
theorem RlsR.k0 {N : Nat} {w w' : World} {q : Option Addr} {d : Nat} {L : List Rl} {bs : List Nat} (h : RlsR N w q d L bs) (hk : K0 w w') : RlsR N w' q d L bs :=
  ⟨owns_kp h.own hk (fun _ _ h => h), fun k b r h1 h2 => (h.pat k b r h1 h2).kp hk (fun _ _ _ h => h)⟩
theorem elsOf_len (r : Rl) : (elsOf r).length ≤ 80 := by
  unfold elsOf
  split
  · rename_i e h; exact compileR_len h
  · simp

set_option maxHeartbeats 1000000 in
theorem ecompile_any (L : List Rl) (p : Option Addr) (c : Nat) (w : World) (hR : RowA rlC 3 w p L) :
    Calls Try.prog 28 #[.slice p L.length c] w fun e w' => K0 w w' ∧
      ((chkR L = 0 ∧ ∃ q d bs, e = .returned (.tuple #[.agg #[.slice p L.length c, .slice q L.length d], .int .i64 0]) ∧ bs.length = L.length ∧ RlsR w.heap.size w' q d L bs)
       ∨ (chkR L ≠ 0 ∧ e = .returned (.tuple #[.agg #[.slice none 0 0, .slice none 0 0], .int .i64 (chkR L)]))) := by
  refine vc_ecompile p L.length c w _ ?_
  intro n1
  refine bsp_intro (fun h => fun W hW => ?_) (fun h => ?_)
  · have h : 64 < L.length := by simp at h; omega
    have e : chkR L = 9 := by unfold chkR; rw [if_pos h]
    exact ⟨hW.kk rfl, .inr ⟨by rw [e]; decide, by rw [e]⟩⟩
  have h : L.length ≤ 64 := by simp at h; omega
  have eC : chkR L = rlF L := by unfold chkR; rw [if_neg (by omega)]
  rw [eC]
  intro n2 W hW
  have kW : K0 w W := hW.kk rfl
  have g1 : w.heap.size ≤ n1 := hW.fresh 1 rfl rfl
  have g2 : w.heap.size ≤ n2 := hW.fresh 0 rfl rfl
  have hne : n1 ≠ n2 := hW.apart 1 0 rfl rfl (by decide)
  refine ⟨fun vs w' => ∃ (i : Nat) (q : Option Addr) (d : Nat) (bs : List Nat), vs = [.int .i64 (i : Int)] ∧ i ≤ L.length ∧ rlF (L.take i) = 0 ∧ bs.length = i ∧ w'.heap[n2]? = some (.cells #[.slice p L.length c, .slice q i d] 72 (0, 0)) ∧ w'.heap[n1]? = some (.cells #[.slice none 0 0, .slice none 0 0] 72 (0, 0)) ∧ RlsR w.heap.size w' q d L bs ∧ K0 w w',
    fun vs _ => (match vs with | .int _ x :: _ => L.length - x.toNat | _ => 0), ⟨0, none, 0, [], rfl, by omega, rfl, rfl, hW.cells 0 rfl, hW.cells 1 rfl, ⟨World.ownsRow_nil _ _ _ _, fun k b r h _ => by simp at h⟩, kW⟩, ?_⟩
  rintro x w1 ⟨i, q, d, bs, hv, hi, hok, hbs, hb2, hb1, hrl, k1⟩
  simp only [List.cons.injEq, Value.int.injEq, true_and, and_true] at hv
  subst hv
  have hn1 : n1 < w1.heap.size := block_lt hb1
  have hn2 : n2 < w1.heap.size := block_lt hb2
  refine bsp_intro (fun hlt => ?_) (fun hge => ?_)
  · have hlt : i < L.length := by simp at hlt; omega
    obtain ⟨r, b, o, hr, rfl, hat⟩ := (hR.k0 k1).get hlt
    show (0 ≤ (i : Int) ∧ (i : Int) < (L.length : Int)) ∧ _
    rw [Int.toNat_natCast]
    refine ⟨by omega, r.pat, r.lo, r.hi, hat, fun n W1 hW1 => ?_⟩
    have kk1 : K0 w1 W1 := hW1.kk rfl
    have gn : w1.heap.size ≤ n := hW1.fresh 0 rfl rfl
    refine ⟨(compile_any r.pat W1).mono fun e w2 ⟨hk2, he⟩ => ?_⟩
    have k12 : K0 w1 w2 := kk1.trans hk2
    have kw2 : K0 w w2 := k1.trans k12
    have hb1' := k12.blk hb1 (fun h => h)
    have hb2' := k12.blk hb2 (fun h => h)
    have hbn := hk2.blk (hW1.cells 0 rfl) (fun h => h)
    have hnW : n < w2.heap.size := block_lt hbn
    -- an error
    have fail : ∀ x : Int, x ≠ 0 → rl1 r = x → WrL w2 n1 0 2 ∧ rlF L = x ∧ ∀ (w3 : World), PutB w2 n1 0 [Value.slice none 0 0, Value.slice none 0 0] w3 → KeptL [n] w2 w3 ∧ AtL w3 n1 0 [Value.slice none 0 0, Value.slice none 0 0] ∧ K0 w w3 := by
      intro x hx hrx
      have hF : rlF L = x := by rw [rlF_hit hok hr (by rw [hrx]; exact hx), hrx]
      exact ⟨WrL_block hb1' (Nat.le_refl 2), hF, fun w3 hp => ⟨put_kept hp (fun m hm => by simp at hm; omega), AtL_block (hp.full hb1' rfl) rfl, put_k0 kw2 hp g1⟩⟩
    cases hc : compileR r.pat with
    | inr oe =>
      obtain ⟨o', e'⟩ := oe
      rw [hc] at he
      have hne0 := (compileR_off _ _ _ hc).2
      refine ⟨_, _, _, he, .of_k0 hk2, bsp_intro (fun _ => ?_) (fun h => ?_)⟩
      · obtain ⟨f1, hF, f2⟩ := fail 3 (by decide) (by unfold rl1; rw [hc])
        refine ⟨f1, fun w3 hp => ?_⟩
        obtain ⟨a1, a2, a3⟩ := f2 w3 hp
        exact ⟨a1, _, _, _, _, _, _, a2, a3, .inr ⟨by rw [hF]; decide, by rw [hF]⟩⟩
      · exfalso; simp at h; exact hne0 h
    | inl els =>
      rw [hc] at he
      obtain ⟨bp, he, hpat⟩ := he
      refine ⟨_, _, _, he, .of_k0 hk2, bsp_intro (fun h => by simp at h) (fun _ => ?_)⟩
      refine ⟨r.lo, gimp_intro fun _ => cell_at hbn rfl, r.hi, gimp_intro fun _ => cell_at hbn rfl, r.hi, gimp_intro fun _ => cell_at hbn rfl, bsp_intro (fun hbad => ?_) (fun hgood => ?_)⟩
      · obtain ⟨f1, hF, f2⟩ := fail 2 (by decide) (by
          unfold rl1
          rw [hc]
          simp only
          rw [if_pos]
          simp at hbad
          omega)
        refine ⟨f1, fun w3 hp => ?_⟩
        obtain ⟨a1, a2, a3⟩ := f2 w3 hp
        exact ⟨a1, _, _, _, _, _, _, a2, a3, .inr ⟨by rw [hF]; decide, by rw [hF]⟩⟩
      · have hr1 : rl1 r = 0 := by
          unfold rl1
          rw [hc]
          simp only
          rw [if_neg]
          simp at hgood
          omega
        refine ⟨q, i, d, cell_at hb2' rfl, fun n4 W4 hW4 => ?_⟩
        have k24 : K0 w2 W4 := hW4.kk rfl
        have kw4 : K0 w W4 := kw2.trans k24
        have ho4 := owns_kp hrl.own (k12.trans k24) (fun _ _ h => h)
        rw [hbs] at ho4
        refine ⟨w.heap.size, _, ho4, by omega, by omega, kw4.size, fun p' c' w5 ho5 hg5 _ => ?_⟩
        have hk5 := kp_grown hg5
        have kw5 : K0 w w5 := kw4.fresh hk5 (fun j hj e => by have := own_ge ho4 e; omega)
        have nrow : ∀ (m : Nat) (c : Array Value) (t : TypeId) (f : Nat × Nat), t ≠ 101 → W4.heap[m]? = some (.cells c t f) → ¬ (Value.slice q i d).ownBlock = some m := fun m c t f ht hm e => by
          obtain ⟨c', h'⟩ := own_type ho4 e
          rw [hm] at h'
          simp at h'
          exact ht h'.2.1
        have hb2'' := hk5.blk (k24.blk hb2' (fun h => h)) (nrow n2 _ _ _ (by decide) (k24.blk hb2' (fun h => h)))
        have hb1'' := hk5.blk (k24.blk hb1' (fun h => h)) (nrow n1 _ _ _ (by decide) (k24.blk hb1' (fun h => h)))
        have hbn'' := nrow n _ 68 _ (by decide) (k24.blk hbn (fun h => h))
        refine ⟨.of_kp hk5 (fun m hm => by simp at hm; subst hm; exact hbn''), cell_wr hb2'' (Nat.le_refl 2), fun w6 hp6 => ?_⟩
        have hl5 : L.length - (i + 1) < L.length - i := by omega
        refine ⟨put_kept hp6 (fun m hm => by simp at hm; omega), ⟨i + 1, p', c', bs ++ [bp], by rw [inc64 (by omega)], hlt, rlF_next hok hr hr1, by simp [hbs], ?_, hp6.blk hb1'' hne, ⟨?_, ?_⟩, put_k0 kw5 hp6 g2⟩, ?_⟩
        · rw [hp6.block hb2'']; rfl
        · have := owns_kp ho5 hp6.kp (fun k hk e => by
            obtain ⟨c9, h9⟩ := own_type ho5 hk
            subst e
            rw [hb2''] at h9
            simp at h9)
          simpa [ptrV, hbs] using this
        · have keep : ∀ {b' : Nat} {s : ByteArray} {els : List El}, PatR (fun k => w.heap.size ≤ k) W4 b' s els → PatR (fun k => w.heap.size ≤ k) w6 b' s els := fun h4 =>
            (h4.kpT hk5 (fun k cc t f e hh => by
              obtain ⟨c9, h9⟩ := own_type ho4 e
              rw [hh] at h9
              simp at h9
              rw [h9.2.1]
              exact ⟨by decide, by decide⟩)).kpT hp6.kp (fun k cc t f e hh => by
              subst e
              rw [hb2''] at hh
              simp at hh
              rw [← hh.2.1]
              exact ⟨by decide, by decide⟩)
          intro k b' r' hb' hr'
          rcases Nat.lt_or_ge k bs.length with hk | hk
          · rw [List.getElem?_append_left hk] at hb'
            exact keep ((hrl.pat k b' r' hb' hr').kp (k12.trans k24) (fun _ _ _ h => h))
          · rw [List.getElem?_append_right hk] at hb'
            have hk0 : k - bs.length = 0 := by
              have := (List.getElem?_eq_some_iff.1 hb').1
              simp at this
              omega
            rw [hk0] at hb'
            simp at hb'
            subst hb'
            have : k = i := by omega
            subst this
            rw [hr] at hr'
            simp at hr'
            subst hr'
            have he : elsOf r = els := by unfold elsOf; rw [hc]
            rw [he]
            exact keep ((hpat.mono (fun k hk _ => Nat.le_trans (k1.trans kk1).size hk)).kp k24 (fun _ _ _ h => h))
        · rw [inc64 (by omega)]; simp only [Int.toNat_natCast]; exact hl5
  · have hi : i = L.length := by simp at hge; omega
    have hF : rlF L = 0 := by rw [hi, List.take_length] at hok; exact hok
    refine ⟨_, _, _, _, _, _, AtL_block hb2 rfl, WrL_block hb1 (by decide), fun w3 hp => ⟨put_kept hp (fun m hm => by cases hm), _, _, _, _, _, _, AtL_block (hp.full hb1 rfl) rfl, put_k0 k1 hp g1, .inl ⟨hF, q, d, bs, by rw [hi], by omega, ?_, ?_⟩⟩⟩
    · refine owns_kp hrl.own hp.kp (fun k hk e => by
        obtain ⟨c9, h9⟩ := own_type hrl.own hk
        subst e
        rw [hb1] at h9
        simp at h9)
    · intro k b' r' hb' hr'
      refine (hrl.pat k b' r' hb' hr').kpT hp.kp (fun k cc t f e hh => by
        subst e
        rw [hb1] at hh
        simp at hh
        rw [← hh.2.1]
        exact ⟨by decide, by decide⟩)

end Go.Proofs.Ytmjanmffnblcoaa

/- Chapter 42: the contracts of of, days, Check, Least and Most. Names have at most 2^63 bytes. -/
namespace Go.Proofs.Ytmjanmffnblcoaa
open Go.RowKit

theorem eof_any {N : Nat} (L : List Rl) (p : Option Addr) (c : Nat) (q : Option Addr) (d : Nat) (bs : List Nat) (g : ByteArray) (w : World) (hR : RowA rlC 3 w p L) (hP : RlsR N w q d L bs) (hb : bs.length = L.length) (hL : L.length ≤ 64) (hg : g.size ≤ 9223372036854775807) :
    Calls Try.prog 66 #[.agg #[.slice p L.length c, .slice q L.length d], .string g] w fun e w' => (∃ s : ByteArray, e = .returned (.agg #[.string s, .int .i64 (ofR L g).1, .int .i64 (ofR L g).2])) ∧ K0 w w' := by
  refine vc_eof p L.length c q L.length d g w _ ?_
  intro n1 n2 W hW
  have kW : K0 w W := hW.kk rfl
  have hne : n2 ≠ n1 := hW.apart 0 1 rfl rfl (by decide)
  have g2 : w.heap.size ≤ n2 := hW.fresh 0 rfl rfl
  refine ⟨fun vs w' => ∃ i : Nat, vs = [.int .i64 ((i : Int) - 1)] ∧ i ≤ L.length ∧ ofR (L.take i) g = ofR L g ∧ w'.heap[n2]? = some (.cells #[.string ⟨#[]⟩, .int .i64 0, .int .i64 0] 68 (0, 0)) ∧ K0 w w',
    fun vs _ => (match vs with | .int _ x :: _ => (x + 1).toNat | _ => 0), ⟨L.length, by rw [wr64 (by omega) (by omega)], by omega, by rw [List.take_length], hW.cells 0 rfl, kW⟩, ?_⟩
  rintro x w1 ⟨i, hv, hi, hof, hb2, k1⟩ hL1
  simp only [List.cons.injEq, Value.int.injEq, true_and, and_true] at hv
  subst hv
  refine bsp_intro (fun hlt => ?_) (fun hge => ?_)
  · have hlt : 0 < i := by simp at hlt; omega
    obtain ⟨r, b, o, hr, rfl, hat⟩ := (hR.k0 k1).get (k := i - 1) (by omega)
    obtain ⟨bp, hbp⟩ : ∃ bp, bs[i - 1]? = some bp := ⟨_, List.getElem?_eq_getElem (by omega)⟩
    have hP1 := hP.k0 k1
    obtain ⟨gq, hq, hcq⟩ := own_cellL hP1.own (i := i - 1) (v := ptrV bp) (by rw [List.getElem?_map, hbp]; rfl)
    subst hq
    have e1 : ((i : Int) - 1).toNat = i - 1 := by omega
    show (0 ≤ (i : Int) - 1 ∧ (i : Int) - 1 < (L.length : Int)) ∧ _
    rw [e1]
    refine ⟨by omega, some ⟨bp, 0, none⟩, by rw [Nat.zero_add]; exact hcq, ?_⟩
    refine ⟨(match_any (hP1.pat _ _ _ hbp hr) (by have := elsOf_len r; omega) g hg).mono fun e w2 ⟨he, hk2⟩ => ⟨_, he, .of_k0 hk2, ?_⟩⟩
    have htk : L.take i = L.take (i - 1) ++ [r] := by
      have := take_snoc hr
      rwa [show i - 1 + 1 = i by omega] at this
    rw [htk, ofR_snoc] at hof
    have hb2' := hk2.blk hb2 (fun h => h)
    refine bsp_intro (fun hm => ?_) (fun hm => ?_)
    · have hm : hitR r g = true := hm
      rw [if_pos hm] at hof
      show (0 ≤ (i : Int) - 1 ∧ (i : Int) - 1 < (L.length : Int)) ∧ _
      refine ⟨by omega, r.pat, r.lo, r.hi, hat.k0 hk2, WrL_block hb2' (Nat.le_refl 3), fun w3 hp => ⟨put_kept hp (fun m hm => by simp at hm; omega), _, _, _, AtL_block (hp.full hb2' rfl) rfl, ⟨_, by rw [← hof]⟩, put_k0 (k1.trans hk2) hp g2⟩⟩
    · have hm : ¬ hitR r g = true := by
        have hm : hitR r g = false := hm
        simp [hm]
      rw [if_neg hm] at hof
      exact ⟨⟨i - 1, by rw [wr64 (by omega) (by omega)]; congr 2; omega, by omega, hof, hb2', k1.trans hk2⟩, by rw [wr64 (by omega) (by omega)]; simp only; omega⟩
  · have h0 : i = 0 := by simp at hge; omega
    subst h0
    refine ⟨WrL_block hb2 (Nat.le_refl 3), fun w3 hp => ⟨put_kept hp (fun m hm => by simp at hm; omega), _, _, _, AtL_block (hp.full hb2 rfl) rfl, ⟨_, by rw [← hof]; rfl⟩, put_k0 k1 hp g2⟩⟩

theorem daysF_cons (L : List Rl) (g : ByteArray) (gs : List ByteArray) (y : Int × Int) : daysF L (g :: gs) y = daysF L gs (max y.1 (ofR L g).1, max y.2 (ofR L g).2) := rfl
theorem edays_any {N : Nat} (L : List Rl) (p : Option Addr) (c : Nat) (q : Option Addr) (d : Nat) (bs : List Nat) (x : AX) (w : World) (hR : RowA rlC 3 w p L) (hP : RlsR N w q d L bs) (hb : bs.length = L.length) (hL : L.length ≤ 64) (hx : StrP w x.gp x.gs) (hl : x.gs.length ≤ 1048576) (hz : ∀ z ∈ x.gs, z.size ≤ 9223372036854775807) :
    Calls Try.prog 38 #[.agg #[.slice p L.length c, .slice q L.length d], .agg (axC x).toArray] w fun e w' => e = .returned (.tuple #[.int .i64 (daysR L x.gs).1, .int .i64 (daysR L x.gs).2]) ∧ K0 w w' := by
  refine vc_edays p L.length c q L.length d x.id x.dt x.ar x.gp x.gs.length x.gc x.by_ x.ct x.hp x.hs.length x.hc x.wd w _ ?_
  intro n1 n2
  refine bsp_intro (fun h => fun W hW => ?_) (fun h => fun W hW => ?_)
  · have h : x.gs = [] := by simpa using h
    exact ⟨by unfold daysR; rw [if_pos h], hW.kk rfl⟩
  have h : ¬ x.gs = [] := by simpa using h
  have eD : daysR L x.gs = daysF L x.gs (0, 0) := by unfold daysR; rw [if_neg h]
  rw [eD]
  have kW : K0 w W := hW.kk rfl
  refine ⟨fun vs w' => ∃ (i : Nat) (y : Int × Int), vs = [.int .i64 (i : Int), .int .i64 y.2, .int .i64 y.1] ∧ i ≤ x.gs.length ∧ daysF L (x.gs.drop i) y = daysF L x.gs (0, 0) ∧ K0 w w' ∧ w'.heap[n2]? = some (.cells (axC x).toArray 42 (0, 0)) ∧ w'.heap[n1]? = some (.cells #[.slice p L.length c, .slice q L.length d] 72 (0, 0)),
    fun vs _ => (match vs with | .int _ x1 :: _ => x.gs.length - x1.toNat | _ => 0), ⟨0, (0, 0), rfl, by omega, rfl, kW, hW.cells 0 rfl, hW.cells 1 rfl⟩, ?_⟩
  rintro x1 x2 x3 w1 ⟨i, y, hv, hi, hd, k1, hb2, hb1⟩ hL1
  simp only [List.cons.injEq, Value.int.injEq, true_and, and_true] at hv
  obtain ⟨rfl, rfl, rfl⟩ := hv
  refine bsp_intro (fun hlt => ?_) (fun hge => ?_)
  · have hlt : i < x.gs.length := by simp at hlt; omega
    obtain ⟨z, b, o, hzi, hgp, hc⟩ := (hx.k0 k1).get hlt
    rw [hgp]
    show (0 ≤ (i : Int) ∧ (i : Int) < (x.gs.length : Int)) ∧ _
    rw [Int.toNat_natCast]
    refine ⟨by omega, z, hc, ⟨(eof_any L p c q d bs z w1 (hR.k0 k1) (hP.k0 k1) hb hL (hz z (List.mem_of_getElem? hzi))).mono fun e w2 ⟨⟨s, he⟩, hk2⟩ => ⟨_, _, _, he, .of_k0 hk2, fun n3 W3 hW3 => ?_⟩⟩⟩
    have k3 : K0 w1 W3 := hk2.trans (hW3.kk rfl)
    refine ⟨⟨i + 1, (max y.1 (ofR L z).1, max y.2 (ofR L z).2), ?_, hlt, ?_, k1.trans k3, k3.blk hb2 (fun h => h), k3.blk hb1 (fun h => h)⟩, ?_⟩
    · rw [inc64 (by omega)]
      congr 2
      · simp only [Value.int.injEq, true_and]; split <;> omega
      · simp only [List.cons.injEq, Value.int.injEq, true_and, and_true]; split <;> omega
    · rw [← hd]
      have : x.gs.drop i = z :: x.gs.drop (i + 1) := by
        rw [List.drop_eq_getElem_cons hlt]
        rw [List.getElem?_eq_getElem hlt] at hzi
        simp at hzi
        rw [hzi]
      rw [this, daysF_cons]
    · rw [inc64 (by omega)]; simp only [Int.toNat_natCast]; omega
  · have hi : i = x.gs.length := by simp at hge; omega
    rw [hi, List.drop_length] at hd
    exact ⟨by rw [← hd]; rfl, k1⟩

theorem echeck_any (L : List Rl) (p : Option Addr) (c : Nat) (w : World) (hR : RowA rlC 3 w p L) :
    Calls Try.prog 18 #[.slice p L.length c] w fun e w' => e = .returned (.int .i64 (chkR L)) ∧ K0 w w' := by
  refine vc_echeck p L.length c w _ ⟨(ecompile_any L p c w hR).mono fun e w1 ⟨k1, he⟩ => ?_⟩
  rcases he with ⟨h0, q, d, bs, he, _⟩ | ⟨h0, he⟩
  · exact ⟨_, _, _, _, _, _, _, he, .of_k0 k1, fun n W hW => ⟨by rw [h0], k1.trans (hW.kk rfl)⟩⟩
  · exact ⟨_, _, _, _, _, _, _, he, .of_k0 k1, fun n W hW => ⟨rfl, k1.trans (hW.kk rfl)⟩⟩
theorem chkR_len {L : List Rl} (h : chkR L = 0) : L.length ≤ 64 := by
  unfold chkR at h
  split at h
  · cases h
  · omega
theorem eleast_any (L : List Rl) (p : Option Addr) (c : Nat) (x : AX) (w : World) (hR : RowA rlC 3 w p L) (hx : StrP w x.gp x.gs) (hl : x.gs.length ≤ 1048576) (hz : ∀ z ∈ x.gs, z.size ≤ 9223372036854775807) :
    Calls Try.prog 21 #[.slice p L.length c, .agg (axC x).toArray] w fun e w' => e = .returned (.int .i64 (if chkR L = 0 then (daysR L x.gs).1 else 0)) ∧ K0 w w' := by
  refine vc_eleast p L.length c x.id x.dt x.ar x.gp x.gs.length x.gc x.by_ x.ct x.hp x.hs.length x.hc x.wd w _ ?_
  intro n1 W hW
  have kW : K0 w W := hW.kk rfl
  refine ⟨(ecompile_any L p c W (hR.k0 kW)).mono fun e w1 ⟨k1, he⟩ => ?_⟩
  rcases he with ⟨h0, q, d, bs, he, hbs, hP⟩ | ⟨h0, he⟩
  · refine ⟨_, _, _, _, _, _, _, he, .of_k0 k1, fun n3 => bsp_intro (fun h => by simp at h) (fun _ W3 hW3 => ?_)⟩
    have k3 : K0 W W3 := k1.trans (hW3.kk rfl)
    exact ⟨(edays_any L p c q d bs x W3 (hR.k0 (kW.trans k3)) (hP.k0 (hW3.kk rfl)) hbs (chkR_len h0) (hx.k0 (kW.trans k3)) hl hz).mono fun e w4 ⟨he, k4⟩ => ⟨_, _, he, .of_k0 k4, by rw [if_pos h0], (kW.trans k3).trans k4⟩⟩
  · refine ⟨_, _, _, _, _, _, _, he, .of_k0 k1, fun n3 => bsp_intro (fun _ W3 hW3 => ⟨by rw [if_neg h0], (kW.trans k1).trans (hW3.kk rfl)⟩) (fun h => by simp at h; exact absurd h h0)⟩
theorem emost_any (L : List Rl) (p : Option Addr) (c : Nat) (x : AX) (w : World) (hR : RowA rlC 3 w p L) (hx : StrP w x.gp x.gs) (hl : x.gs.length ≤ 1048576) (hz : ∀ z ∈ x.gs, z.size ≤ 9223372036854775807) :
    Calls Try.prog 22 #[.slice p L.length c, .agg (axC x).toArray] w fun e w' => e = .returned (.int .i64 (if chkR L = 0 then (daysR L x.gs).2 else 0)) ∧ K0 w w' := by
  refine vc_emost p L.length c x.id x.dt x.ar x.gp x.gs.length x.gc x.by_ x.ct x.hp x.hs.length x.hc x.wd w _ ?_
  intro n1 W hW
  have kW : K0 w W := hW.kk rfl
  refine ⟨(ecompile_any L p c W (hR.k0 kW)).mono fun e w1 ⟨k1, he⟩ => ?_⟩
  rcases he with ⟨h0, q, d, bs, he, hbs, hP⟩ | ⟨h0, he⟩
  · refine ⟨_, _, _, _, _, _, _, he, .of_k0 k1, fun n3 => bsp_intro (fun h => by simp at h) (fun _ W3 hW3 => ?_)⟩
    have k3 : K0 W W3 := k1.trans (hW3.kk rfl)
    exact ⟨(edays_any L p c q d bs x W3 (hR.k0 (kW.trans k3)) (hP.k0 (hW3.kk rfl)) hbs (chkR_len h0) (hx.k0 (kW.trans k3)) hl hz).mono fun e w4 ⟨he, k4⟩ => ⟨_, _, he, .of_k0 k4, by rw [if_pos h0], (kW.trans k3).trans k4⟩⟩
  · refine ⟨_, _, _, _, _, _, _, he, .of_k0 k1, fun n3 => bsp_intro (fun _ W3 hW3 => ⟨by rw [if_neg h0], (kW.trans k1).trans (hW3.kk rfl)⟩) (fun h => by simp at h; exact absurd h h0)⟩

end Go.Proofs.Ytmjanmffnblcoaa

/- delete of a map's entry, clear of a row's end, slices that are shorter. Generic: no program, no condition. -/
namespace Go.Proofs.Ytmjanmffnblcoaa
open Go.RowKit Go.Maps

theorem map_erase {α β : Type} (f : α → β) : ∀ (l : List α) (i : Nat), (l.eraseIdx i).map f = (l.map f).eraseIdx i
  | [], _ => rfl
  | _ :: _, 0 => rfl
  | x :: l, i + 1 => by simp [map_erase f l i]
section
variable {α : Type} {P : Program} {k t e : TypeId} {enc : α → Value} {w w1 : World} {b : Nat} {l : List (α × Value)}
variable [DecidableEq α]
theorem adel_none {β : Type} {l : List (α × β)} {a : α} (h : ∀ p ∈ l, p.1 ≠ a) : adel l a = l := List.filter_eq_self.2 fun p hp => by simp [h p hp]
theorem adel_at {β : Type} : ∀ {l : List (α × β)} {a : α} {v : β} {j : Nat}, (l.Pairwise fun p q => p.1 ≠ q.1) → l[j]? = some (a, v) → adel l a = l.eraseIdx j
  | [], a, v, j, _, h => by simp at h
  | (x, u) :: l, a, v, 0, hd, h => by
    simp at h
    obtain ⟨rfl, rfl⟩ := h
    have := adel_none (fun p hp => fun e => (List.pairwise_cons.1 hd).1 p hp e.symm)
    unfold adel at this ⊢
    rw [List.filter_cons, if_neg (by simp), this]; rfl
  | (x, u) :: l, a, v, j + 1, hd, h => by
    have h' : l[j]? = some (a, v) := by simpa using h
    have hne : x ≠ a := (List.pairwise_cons.1 hd).1 (a, v) (List.mem_of_getElem? h')
    have ih := adel_at (List.pairwise_cons.1 hd).2 h'
    unfold adel at ih ⊢
    rw [List.filter_cons, if_pos (by simp [hne]), ih]; rfl
theorem aget_adel {β : Type} (l : List (α × β)) (a c : α) : aget (adel l a) c = if a = c then none else aget l c := by
  induction l with
  | nil => simp [adel, aget]
  | cons p r ih =>
    obtain ⟨x, u⟩ := p
    unfold adel at ih ⊢
    rw [List.filter_cons]
    by_cases h : x = a
    · subst h
      rw [if_neg (by simp), ih]
      by_cases h2 : x = c
      · rw [if_pos h2, if_pos h2]
      · rw [if_neg h2, if_neg h2]; simp [aget, h2]
    · rw [if_pos (by simp [h])]
      unfold aget
      by_cases h2 : x = c
      · subst h2; simp [Ne.symm h]
      · simp only [h2, if_false]; exact ih
variable (hinj : ∀ x y, enc x = enc y → x = y)
include hinj
/-- An entry of a map is struck. -/
theorem MapB.del (h : MapB P k enc w b l) (K : Keyed P k) (ht : P.underlying t = some (.map k e)) {a : α} {kl : Lit} (ha : keyOf P k (enc a) = some kl) :
    ∃ w1, BltP P .delete [t, k] [.map (some b), enc a] w w1 ∧ MapB P k enc w1 b (adel l a) ∧ Kp (· = b) w w1 := by
  obtain ⟨es, c, hb, he⟩ := h.blk
  have hkp : ∀ o, Kp (· = b) w (ChangeMaps.setBlock w b o) := fun o => ⟨rfl, rfl, rfl, by simp [ChangeMaps.setBlock], fun i _ hi => ChangeMaps.heap_setBlock_other hb _ (fun e => hi (by rw [e]))⟩
  have hkeys : ∀ p ∈ adel l a, ∃ kl, keyOf P k (enc p.1) = some kl := fun p hp => h.key p (List.mem_filter.1 hp).1
  have hdis : (adel l a).Pairwise fun p q => p.1 ≠ q.1 := List.Pairwise.sublist List.filter_sublist h.dis
  rcases map_find hinj K he h.key h.dis ha (w := w) with ⟨h1, h2⟩ | ⟨j, x, u, h1, h2, h3, h4, h5⟩
  · refine ⟨ChangeMaps.setBlock w b (.map es c), ⟨fun ty cs => ?_⟩, ⟨⟨_, _, ChangeMaps.heap_setBlock_same hb _, ?_⟩, hkeys, hdis⟩, hkp _⟩
    · simp [builtin, Builtin.delete_, run_underlying ht, MapKept.run_getObj_map hb, K.check w _ ha, h2, MapKept.run_setObj_map _ hb, Result.andThen, ChangeMaps.setBlock]
    · rw [adel_none (aget_none.1 h1), he]
  · refine ⟨ChangeMaps.setBlock w b (.map (es.eraseIdxIfInBounds j) c), ⟨fun ty cs => ?_⟩, ⟨⟨_, _, ChangeMaps.heap_setBlock_same hb _, ?_⟩, hkeys, hdis⟩, hkp _⟩
    · simp [builtin, Builtin.delete_, run_underlying ht, MapKept.run_getObj_map hb, K.check w _ ha, h2, MapKept.run_setObj_map _ hb, Result.andThen, ChangeMaps.setBlock]
    · rw [adel_at h.dis h3]
      rw [map_erase, ← he, ← map_erase]
      simp
end

/-! ### The end of a row is cleared -/
theorem putL_len : ∀ (vs c : List Value) (o : Nat), (putL c o vs).length = c.length
  | [], c, o => rfl
  | v :: r, c, o => by simp only [putL]; rw [putL_len r]; simp
theorem putL_take : ∀ (vs c : List Value) (o k : Nat), k ≤ o → (putL c o vs).take k = c.take k
  | [], c, o, k, _ => rfl
  | v :: r, c, o, k, h => by
    simp only [putL]
    rw [putL_take r _ (o + 1) k (by omega)]
    apply List.ext_getElem?
    intro i
    rw [List.getElem?_take, List.getElem?_take]
    split
    · rw [List.getElem?_set]
      rw [if_neg (by omega)]
    · rfl
theorem oneB_all : ∀ l : List Value, (∀ v ∈ l, v.oneCell' = true) → oneB l = true
  | [], _ => rfl
  | v :: r, h => by
    have h1 := h v (by simp)
    have h2 := oneB_all r (fun u hu => h u (by simp [hu]))
    cases v <;> first | exact h2 | (simp [Value.oneCell'] at h1)
theorem zeroCells_mem {z : Array Value} {n : Nat} {v : Value} (h : v ∈ (Builtin.zeroCells z n).toList) : v ∈ z.toList := by
  unfold Builtin.zeroCells at h
  rw [Array.toList_map, List.mem_map] at h
  obtain ⟨i, hi, rfl⟩ := h
  have hi : i < n * z.size := by simpa using hi
  have hz : 0 < z.size := by
    rcases Nat.eq_zero_or_pos z.size with h0 | h0
    · rw [h0] at hi; omega
    · exact h0
  have : i % z.size < z.size := Nat.mod_lt _ hz
  rw [getElem!_pos z _ this]
  simp
theorem zeroCells_len {z : Array Value} {n : Nat} : (Builtin.zeroCells z n).toList.length = n * z.size := by simp [Builtin.zeroCells]
theorem clear_row {P : Program} {w : World} {t e T : TypeId} (ht : P.underlying t = some (.slice e)) {z : Value} (hz : ∀ w, (zeroValue e).run P w = .ok z w) {b o m c : Nat} {cells : Array Value} (hb : w.heap[b]? = some (.cells cells T (0, 0)))
    (hm : 0 < m) (hl : o + m * z.cells.size ≤ cells.size) (h1 : ∀ v ∈ z.cells.toList, v.oneCell' = true) :
    ∃ w1, BltP P .clear [t] [.slice (some ⟨b, o, none⟩) m c] w w1 ∧ Kp (· = b) w w1 ∧ w1.heap[b]? = some (.cells (putL cells.toList o (Builtin.zeroCells z.cells m).toList).toArray T (0, 0)) := by
  have hst := run_storeCells_w (P := P) (b := b) (o := o) (Builtin.zeroCells z.cells m).toList 0 w (oneB_all _ fun v hv => h1 v (zeroCells_mem hv)) (fun j hj => by
    rw [zeroCells_len] at hj
    exact cell_wr hb (by omega))
  refine ⟨wset w b o (Builtin.zeroCells z.cells m).toList, ⟨fun ty cs => ?_⟩, wset_kp _ _ _, wset_block _ _ _ _ hb⟩
  obtain ⟨m, rfl⟩ : ∃ k, m = k + 1 := ⟨m - 1, by omega⟩
  rw [Nat.add_zero] at hst
  simp [builtin, Builtin.clear_, run_underlying ht, hz, hst, Result.andThen]
/-- The front of a row is a row. -/
theorem own_pre {w : World} {base : Nat} {e : TypeId} {L n c m : Nat} {p : Option Addr} {xs : List Value} (h : w.ownsRow base e L (.slice p n c) n xs) (hm : m ≤ n) (hn : 0 < n) : w.ownsRow base e L (.slice p m c) m (xs.take (m * L)) := by
  have hl := h.1
  refine ⟨by rw [List.length_take, hl]; exact Nat.min_eq_left (Nat.mul_le_mul_right _ hm), ?_⟩
  rcases h.2 with ⟨_, h0⟩ | ⟨g, cap, cur, hv, hb, hg, h4, h5, h6, h7⟩
  · omega
  · simp only [Value.slice.injEq, true_and] at hv
    obtain ⟨rfl, rfl⟩ := hv
    refine .inr ⟨g, c, cur, rfl, hb, hg, by omega, h5, h6, ?_⟩
    rw [← h7, List.take_take, Nat.min_eq_left (Nat.mul_le_mul_right _ hm)]
/-- What lies behind a row is written. -/
theorem own_tail {w w1 : World} {base : Nat} {e : TypeId} {L n c g o : Nat} {xs vs : List Value} (h : w.ownsRow base e L (.slice (some ⟨g, 0, none⟩) n c) n xs) {cells : Array Value} (hg : w.heap[g]? = some (.cells cells e (0, 0))) (ho : n * L ≤ o) (hw : w1.heap[g]? = some (.cells (putL cells.toList o vs).toArray e (0, 0))) :
    w1.ownsRow base e L (.slice (some ⟨g, 0, none⟩) n c) n xs := by
  refine ⟨h.1, ?_⟩
  rcases h.2 with ⟨hv, _⟩ | ⟨g', cap, cur, hv, hb, hg', h4, h5, h6, h7⟩
  · simp at hv
  · simp only [Value.slice.injEq, true_and, Option.some.injEq, Addr.mk.injEq, and_true] at hv
    obtain ⟨rfl, rfl⟩ := hv
    rw [hg] at hg'
    simp only [Option.some.injEq, Obj.cells.injEq, and_true] at hg'
    subst hg'
    refine .inr ⟨g, c, _, rfl, hb, hw, h4, h5, ?_, ?_⟩
    · simp [putL_len, h6]
    · show (putL cells.toList o vs).take (n * L) = xs
      rw [putL_take _ _ _ _ ho, h7]
theorem erase_flat {α : Type} (f : α → List Value) (L : Nat) (l : List α) (i : Nat) (hl : ∀ y, (f y).length = L) : (l.flatMap f).take (i * L) ++ (l.flatMap f).drop ((i + 1) * L) = (l.eraseIdx i).flatMap f := by
  rw [take_flat f L l i (fun y _ => hl y), drop_flat f L l (i + 1) (fun y _ => hl y), ← List.flatMap_append, List.eraseIdx_eq_take_drop_succ]
end Go.Proofs.Ytmjanmffnblcoaa
