/- The formulas of functions by the symbolic evaluator, and that each gives the call's contract. Written by a program (gen.py). No condition. -/
import Derived.Test.YtmjanmffnblcoaaGreatDoorProg
import Derived.Test.YtmjanmffnblcoaaGreatDoorZ02
import Derived.Test.YtmjanmffnblcoaaGreatDoorZ04
import Derived.KernelRfl
import Derived.Test.YtmjanmffnblcoaaGreatDoorZ07
import Derived.Test.YtmjanmffnblcoaaGreatDoorZ06
import Derived.Test.YtmjanmffnblcoaaGreatDoorZ05
namespace Go.Proofs.YtmjanmffnblcoaaGreatDoor
set_option maxRecDepth 100000
set_option linter.unusedVariables false

def VC_ecompile (p : Option Addr) (n : Nat) (c : Nat) (w : World) (R : Ending → World → Prop) : Prop :=
 ∀ (n_1 : Nat),
 bsp (decide ((↑n : Int) > 64))
 (∀ (W : World),
 Loc w.heap.size [Blk.mk n_1 74 [Value.slice none 0 0, Value.slice none 0 0] (wrM 2)] w W →
 R
 (Ending.returned (Value.tuple #[Value.agg #[Value.slice none 0 0, Value.slice none 0 0], Value.int IntKind.i64 9]))
 W)
 (∀ (n_2 : Nat) (W : World),
 Loc w.heap.size
 [Blk.mk n_2 74 [Value.slice p n c, Value.slice none 0 0] (wrM 2),
 Blk.mk n_1 74 [Value.slice none 0 0, Value.slice none 0 0] 2]
 w W →
 ∃ (I : List Value → World → Prop),
 ∃ (m : List Value → World → Nat),
 I [Value.int IntKind.i64 0] W ∧
 ∀ (x : Int) (w' : World),
 I [Value.int IntKind.i64 x] w' →
 bsp (decide (x < (↑n : Int)))
 (nn true p fun (b o : Nat) =>
 (0 ≤ x ∧ x < (↑n : Int)) ∧
 ∃ (x_1 : ByteArray),
 ∃ (x_2 : Int),
 ∃ (x_3 : Int),
 AtL w' b (o + x.toNat * 3) [Value.string x_1, Value.int IntKind.i64 x_2, Value.int IntKind.i64 x_3] ∧
 ∀ (n : Nat) (W : World),
 Loc w.heap.size
 [Blk.mk n 40 [Value.string x_1, Value.int IntKind.i64 x_2, Value.int IntKind.i64 x_3] (wrM 2)] w' W →
 CallsS Tryz.prog 37 #[Value.string x_1] W fun (e : Ending) (w'_1 : World) =>
 ∃ (x_4 : Option Addr),
 ∃ (x_5 : Int),
 ∃ (x_6 : Int),
 e =
 Ending.returned
 (Value.tuple #[Value.pointer x_4, Value.int IntKind.i64 x_5, Value.int IntKind.i64 x_6]) ∧
 KeptL [n] W w'_1 ∧
 bsp (x_6 != 0)
 (WrL w'_1 n_1 0 2 ∧
 ∀ (w1 : World),
 PutB w'_1 n_1 0 [Value.slice none 0 0, Value.slice none 0 0] w1 →
 KeptL [n] w'_1 w1 ∧
 ∃ (p : Option Addr),
 ∃ (n : Nat),
 ∃ (c : Nat),
 ∃ (p_1 : Option Addr),
 ∃ (n_3 : Nat),
 ∃ (c_1 : Nat),
 AtL w1 n_1 0 [Value.slice p n c, Value.slice p_1 n_3 c_1] ∧
 R
 (Ending.returned
 (Value.tuple
 #[Value.agg #[Value.slice p n c, Value.slice p_1 n_3 c_1],
 Value.int IntKind.i64 3]))
 w1)
 (∃ (x_7 : Int),
 gimp (!decide (x_2 < 0))
 (w'_1.cell? (Addr.mk n (0 + 1) none) = some (Value.int IntKind.i64 x_7)) ∧
 ∃ (x_8 : Int),
 gimp (!decide (x_2 < 0))
 (w'_1.cell? (Addr.mk n (0 + 2) none) = some (Value.int IntKind.i64 x_8)) ∧
 ∃ (x_9 : Int),
 gimp (!(decide (x_2 < 0) || decide (x_7 > x_8)))
 (w'_1.cell? (Addr.mk n (0 + 2) none) = some (Value.int IntKind.i64 x_9)) ∧
 bsp (decide (x_2 < 0) || decide (x_7 > x_8) || decide (x_9 > 36500))
 (WrL w'_1 n_1 0 2 ∧
 ∀ (w1 : World),
 PutB w'_1 n_1 0 [Value.slice none 0 0, Value.slice none 0 0] w1 →
 KeptL [n] w'_1 w1 ∧
 ∃ (p : Option Addr),
 ∃ (n : Nat),
 ∃ (c : Nat),
 ∃ (p_1 : Option Addr),
 ∃ (n_3 : Nat),
 ∃ (c_1 : Nat),
 AtL w1 n_1 0 [Value.slice p n c, Value.slice p_1 n_3 c_1] ∧
 R
 (Ending.returned
 (Value.tuple
 #[Value.agg #[Value.slice p n c, Value.slice p_1 n_3 c_1],
 Value.int IntKind.i64 2]))
 w1)
 (∃ (p : Option Addr),
 ∃ (n_3 : Nat),
 ∃ (c : Nat),
 w'_1.cell? (Addr.mk n_2 (0 + 1) none) = some (Value.slice p n_3 c) ∧
 ∀ (n_4 : Nat) (W : World),
 Loc w.heap.size
 [Blk.mk n_4 94 [Value.pointer x_4] 2,
 Blk.mk n 40
 [Value.string x_1, Value.int IntKind.i64 x_2, Value.int IntKind.i64 x_3] 0]
 w'_1 W →
 ∃ (base : Nat),
 ∃ (xs : List Value),
 W.ownsRow base 94 1 (Value.slice p n_3 c) n_3 xs ∧
 n_3 + 1 ≤ 9223372036854775807 ∧
 (n_3 + 1) * 8 ≤ 140737488355328 ∧
 base ≤ W.heap.size ∧
 ∀ (p' : Option Addr) (c' : Nat) (w'_2 : World),
 w'_2.ownsRow base 94 1 (Value.slice p' (n_3 + 1) c') (n_3 + 1)
 (xs ++ [Value.pointer x_4]) →
 W.grownBy w'_2 (Value.slice p n_3 c).ownBlock →
 (n_3 + 1 ≤ c → p' = p ∧ c' = c) →
 KeptL [n] W w'_2 ∧
 ((∃ (u : Value), w'_2.cell? (Addr.mk n_2 (0 + 1) none) = some u) ∧
 w'_2.frozen? (Addr.mk n_2 (0 + 1) none) = false) ∧
 ∀ (w1 : World),
 PutB w'_2 n_2 (0 + 1) [Value.slice p' (n_3 + 1) c'] w1 →
 KeptL [n] w'_2 w1 ∧
 I [Value.int IntKind.i64 (IntKind.i64.wrap (x + 1))] w1 ∧
 m [Value.int IntKind.i64 (IntKind.i64.wrap (x + 1))] w1 <
 m [Value.int IntKind.i64 x] w')))
 (∃ (p : Option Addr),
 ∃ (n : Nat),
 ∃ (c : Nat),
 ∃ (p_1 : Option Addr),
 ∃ (n_3 : Nat),
 ∃ (c_1 : Nat),
 AtL w' n_2 0 [Value.slice p n c, Value.slice p_1 n_3 c_1] ∧
 WrL w' n_1 0 2 ∧
 ∀ (w1 : World),
 PutB w' n_1 0 [Value.slice p n c, Value.slice p_1 n_3 c_1] w1 →
 KeptL [] w' w1 ∧
 ∃ (p : Option Addr),
 ∃ (n : Nat),
 ∃ (c : Nat),
 ∃ (p_2 : Option Addr),
 ∃ (n_4 : Nat),
 ∃ (c_2 : Nat),
 AtL w1 n_1 0 [Value.slice p n c, Value.slice p_2 n_4 c_2] ∧
 R
 (Ending.returned
 (Value.tuple
 #[Value.agg #[Value.slice p n c, Value.slice p_2 n_4 c_2], Value.int IntKind.i64 0]))
 w1))
theorem vc_ecompile (p : Option Addr) (n : Nat) (c : Nat) (w : World) (R : Ending → World → Prop) (h : VC_ecompile p n c w R) : Calls Tryz.prog 25 ([Value.slice
    p n c] : List Value).toArray w R := by
  have e : execR2 { P := Tryz.prog, loops := [(5, [(18, Ck.int IntKind.i64)])], pur := pur0, tails := [], joins := [], boxes := [] } Tryz.f25.results.toList R (Tryz.f25.body.getD .skip) (initF [Value.slice
    p n c] (Tryz.f25.ntmps - ([Value.slice p n c] : List Value).length)) w = VC_ecompile p n c w R := by kernel_rfl
  have hb : Tryz.f25.body = some (Tryz.f25.body.getD .skip) := by kernel_rfl
  exact calls_of_exec2' (P := Tryz.prog) (fn := Tryz.f25) (c := Tryz.f25.body.getD .skip) (args := [Value.slice p n
    c]) (w := w) (R := R) pur0_ok Tryz.func25 hb e h

def VC_eof (p : Option Addr) (n : Nat) (c : Nat) (q : Option Addr) (k : Nat) (d : Nat) (g : ByteArray) (w : World) (R : Ending → World → Prop) : Prop :=
 ∀ (n_1 n_2 : Nat) (W : World),
 Loc w.heap.size
 [Blk.mk n_2 40 [Value.string (ByteArray.mk #[]), Value.int IntKind.i64 0, Value.int IntKind.i64 0] 2,
 Blk.mk n_1 74 [Value.slice p n c, Value.slice q k d] 2]
 w W →
 ∃ (I : List Value → World → Prop),
 ∃ (m : List Value → World → Nat),
 I [Value.int IntKind.i64 (IntKind.i64.wrap ((↑n : Int) - 1))] W ∧
 ∀ (x : Int) (w' : World),
 I [Value.int IntKind.i64 x] w' →
 Loc w.heap.size [Blk.mk n_1 74 [Value.slice p n c, Value.slice q k d] 0] w' w' →
 bsp (decide (x ≥ 0))
 (nn true q fun (b o : Nat) =>
 (0 ≤ x ∧ x < (↑k : Int)) ∧
 ∃ (x_1 : Option Addr),
 w'.cell? (Addr.mk b (o + x.toNat) none) = some (Value.pointer x_1) ∧
 CallsS Tryz.prog 70 #[Value.pointer x_1, Value.string g] w' fun (e : Ending) (w'_1 : World) =>
 ∃ (x_2 : Bool),
 e = Ending.returned (Value.bool x_2) ∧
 KeptL [n_1] w' w'_1 ∧
 bsp x_2
 (nn true p fun (b o : Nat) =>
 (0 ≤ x ∧ x < (↑n : Int)) ∧
 ∃ (x_3 : ByteArray),
 ∃ (x_4 : Int),
 ∃ (x_5 : Int),
 AtL w'_1 b (o + x.toNat * 3)
 [Value.string x_3, Value.int IntKind.i64 x_4, Value.int IntKind.i64 x_5] ∧
 WrL w'_1 n_2 0 3 ∧
 ∀ (w1 : World),
 PutB w'_1 n_2 0 [Value.string x_3, Value.int IntKind.i64 x_4, Value.int IntKind.i64 x_5] w1 →
 KeptL [n_1] w'_1 w1 ∧
 ∃ (x : ByteArray),
 ∃ (x_6 : Int),
 ∃ (x_7 : Int),
 AtL w1 n_2 0 [Value.string x, Value.int IntKind.i64 x_6, Value.int IntKind.i64 x_7] ∧
 R
 (Ending.returned
 (Value.agg #[Value.string x, Value.int IntKind.i64 x_6, Value.int IntKind.i64 x_7]))
 w1)
 (I [Value.int IntKind.i64 (IntKind.i64.wrap (x - 1))] w'_1 ∧
 m [Value.int IntKind.i64 (IntKind.i64.wrap (x - 1))] w'_1 < m [Value.int IntKind.i64 x] w'))
 (WrL w' n_2 0 3 ∧
 ∀ (w1 : World),
 PutB w' n_2 0 [Value.string (ByteArray.mk #[]), Value.int IntKind.i64 0, Value.int IntKind.i64 36500] w1 →
 KeptL [n_1] w' w1 ∧
 ∃ (x : ByteArray),
 ∃ (x_1 : Int),
 ∃ (x_2 : Int),
 AtL w1 n_2 0 [Value.string x, Value.int IntKind.i64 x_1, Value.int IntKind.i64 x_2] ∧
 R (Ending.returned (Value.agg #[Value.string x, Value.int IntKind.i64 x_1, Value.int IntKind.i64 x_2]))
 w1)
theorem vc_eof (p : Option Addr) (n : Nat) (c : Nat) (q : Option Addr) (k : Nat) (d : Nat) (g : ByteArray) (w : World) (R : Ending → World → Prop) (h : VC_eof p n c q k d g w R) : Calls Tryz.prog 53 ([Value.agg
    #[Value.slice p n c, Value.slice q k d],
  Value.string g] : List Value).toArray w R := by
  have e : execR2 { P := Tryz.prog, loops := [(2, [(5, Ck.int IntKind.i64)])], pur := pur0, tails := [], joins := [], boxes := [] } Tryz.f53.results.toList R (Tryz.f53.body.getD .skip) (initF [Value.agg
    #[Value.slice p n c, Value.slice q k d],
  Value.string
    g] (Tryz.f53.ntmps - ([Value.agg #[Value.slice p n c, Value.slice q k d],
  Value.string g] : List Value).length)) w = VC_eof p n c q k d g w R := by kernel_rfl
  have hb : Tryz.f53.body = some (Tryz.f53.body.getD .skip) := by kernel_rfl
  exact calls_of_exec2' (P := Tryz.prog) (fn := Tryz.f53) (c := Tryz.f53.body.getD .skip) (args := [Value.agg
    #[Value.slice p n c, Value.slice q k d],
  Value.string g]) (w := w) (R := R) pur0_ok Tryz.func53 hb e h

def VC_edays (p : Option Addr) (n : Nat) (c : Nat) (q : Option Addr) (k : Nat) (d : Nat) (id : Nat → Int) (dt : Int) (ar : Int) (gp : Option Addr) (gn : Nat) (gc : Nat) (by_ : Int) (ct : Int) (hp : Option Addr) (hn : Nat) (hc : Nat) (wd : Bool) (w : World) (R : Ending → World → Prop) : Prop :=
 ∀ (n_1 n_2 : Nat),
 bsp ((↑gn : Int) == 0)
 (∀ (W : World),
 Loc w.heap.size
 [Blk.mk n_2 46
 (arrI IntKind.u8 id 32 0 ++ [Value.int IntKind.i64 dt, Value.int IntKind.i64 ar,
 Value.slice gp gn gc, Value.int IntKind.i64 by_, Value.int IntKind.i64 ct, Value.slice hp hn hc, Value.bool wd])
 2,
 Blk.mk n_1 74 [Value.slice p n c, Value.slice q k d] 2]
 w W →
 R (Ending.returned (Value.tuple #[Value.int IntKind.i64 0, Value.int IntKind.i64 36500])) W)
 (∀ (W : World),
 Loc w.heap.size
 [Blk.mk n_2 46
 (arrI IntKind.u8 id 32 0 ++ [Value.int IntKind.i64 dt, Value.int IntKind.i64 ar,
 Value.slice gp gn gc, Value.int IntKind.i64 by_, Value.int IntKind.i64 ct, Value.slice hp hn hc, Value.bool wd])
 2,
 Blk.mk n_1 74 [Value.slice p n c, Value.slice q k d] 2]
 w W →
 ∃ (I : List Value → World → Prop),
 ∃ (m : List Value → World → Nat),
 I [Value.int IntKind.i64 0, Value.int IntKind.i64 0, Value.int IntKind.i64 0] W ∧
 ∀ (x x_1 x_2 : Int) (w' : World),
 I [Value.int IntKind.i64 x, Value.int IntKind.i64 x_1, Value.int IntKind.i64 x_2] w' →
 Loc w.heap.size
 [Blk.mk n_2 46
 (arrI IntKind.u8 id 32 0 ++ [Value.int IntKind.i64 dt,
 Value.int IntKind.i64 ar, Value.slice gp gn gc, Value.int IntKind.i64 by_, Value.int IntKind.i64 ct,
 Value.slice hp hn hc, Value.bool wd])
 0,
 Blk.mk n_1 74 [Value.slice p n c, Value.slice q k d] 0]
 w' w' →
 bsp (decide (x < (↑gn : Int)))
 (nn true gp fun (b o : Nat) =>
 (0 ≤ x ∧ x < (↑gn : Int)) ∧
 ∃ (x_3 : ByteArray),
 w'.cell? (Addr.mk b (o + x.toNat) none) = some (Value.string x_3) ∧
 CallsS Tryz.prog 53 #[Value.agg #[Value.slice p n c, Value.slice q k d], Value.string x_3] w'
 fun (e : Ending) (w'_1 : World) =>
 ∃ (x_4 : ByteArray),
 ∃ (x_5 : Int),
 ∃ (x_6 : Int),
 e =
 Ending.returned
 (Value.agg #[Value.string x_4, Value.int IntKind.i64 x_5, Value.int IntKind.i64 x_6]) ∧
 KeptL [n_2, n_1] w' w'_1 ∧
 ∀ (n_3 : Nat) (W : World),
 Loc w.heap.size
 [Blk.mk n_2 46
 (arrI IntKind.u8 id 32 0 ++ [Value.int IntKind.i64 dt,
 Value.int IntKind.i64 ar, Value.slice gp gn gc, Value.int IntKind.i64 by_,
 Value.int IntKind.i64 ct, Value.slice hp hn hc, Value.bool wd])
 0,
 Blk.mk n_1 74 [Value.slice p n c, Value.slice q k d] 0,
 Blk.mk n_3 40 [Value.string x_4, Value.int IntKind.i64 x_5, Value.int IntKind.i64 x_6] (wrM 2)]
 w'_1 W →
 I
 [Value.int IntKind.i64 (IntKind.i64.wrap (x + 1)),
 Value.int IntKind.i64 (if x_6 > x_1 then x_6 else x_1),
 Value.int IntKind.i64 (if x_5 > x_2 then x_5 else x_2)]
 W ∧
 m
 [Value.int IntKind.i64 (IntKind.i64.wrap (x + 1)),
 Value.int IntKind.i64 (if x_6 > x_1 then x_6 else x_1),
 Value.int IntKind.i64 (if x_5 > x_2 then x_5 else x_2)]
 W <
 m [Value.int IntKind.i64 x, Value.int IntKind.i64 x_1, Value.int IntKind.i64 x_2] w')
 (R (Ending.returned (Value.tuple #[Value.int IntKind.i64 x_2, Value.int IntKind.i64 x_1])) w'))
theorem vc_edays (p : Option Addr) (n : Nat) (c : Nat) (q : Option Addr) (k : Nat) (d : Nat) (id : Nat → Int) (dt : Int) (ar : Int) (gp : Option Addr) (gn : Nat) (gc : Nat) (by_ : Int) (ct : Int) (hp : Option Addr) (hn : Nat) (hc : Nat) (wd : Bool) (w : World) (R : Ending → World → Prop) (h : VC_edays p n c q k d id dt ar gp gn gc by_ ct hp hn hc wd w R) : Calls Tryz.prog 30 ([Value.agg
    #[Value.slice p n c, Value.slice q k d],
  Value.agg
    (arrI IntKind.u8 id 32 0 ++
        [Value.int IntKind.i64 dt, Value.int IntKind.i64 ar, Value.slice gp gn gc, Value.int IntKind.i64 by_,
          Value.int IntKind.i64 ct, Value.slice hp hn hc, Value.bool wd]).toArray] : List Value).toArray w R := by
  have e : execR2 { P := Tryz.prog, loops := [(4, [(16, Ck.int IntKind.i64), (5, Ck.int IntKind.i64), (4, Ck.int IntKind.i64)])], pur := pur0, tails := [], joins := [], boxes := [] } Tryz.f30.results.toList R (Tryz.f30.body.getD .skip) (initF [Value.agg
    #[Value.slice p n c, Value.slice q k d],
  Value.agg
    (arrI IntKind.u8 id 32 0 ++
        [Value.int IntKind.i64 dt, Value.int IntKind.i64 ar, Value.slice gp gn gc, Value.int IntKind.i64 by_,
          Value.int IntKind.i64 ct, Value.slice hp hn hc,
          Value.bool
            wd]).toArray] (Tryz.f30.ntmps - ([Value.agg #[Value.slice p n c, Value.slice q k d],
  Value.agg
    (arrI IntKind.u8 id 32 0 ++
        [Value.int IntKind.i64 dt, Value.int IntKind.i64 ar, Value.slice gp gn gc, Value.int IntKind.i64 by_,
          Value.int IntKind.i64 ct, Value.slice hp hn hc,
          Value.bool
            wd]).toArray] : List Value).length)) w = VC_edays p n c q k d id dt ar gp gn gc by_ ct hp hn hc wd w R := by kernel_rfl
  have hb : Tryz.f30.body = some (Tryz.f30.body.getD .skip) := by kernel_rfl
  exact calls_of_exec2' (P := Tryz.prog) (fn := Tryz.f30) (c := Tryz.f30.body.getD .skip) (args := [Value.agg
    #[Value.slice p n c, Value.slice q k d],
  Value.agg
    (arrI IntKind.u8 id 32 0 ++
        [Value.int IntKind.i64 dt, Value.int IntKind.i64 ar, Value.slice gp gn gc, Value.int IntKind.i64 by_,
          Value.int IntKind.i64 ct, Value.slice hp hn hc,
          Value.bool wd]).toArray]) (w := w) (R := R) pur0_ok Tryz.func30 hb e h

def VC_echeck (p : Option Addr) (n : Nat) (c : Nat) (w : World) (R : Ending → World → Prop) : Prop :=
 CallsS Tryz.prog 25 #[Value.slice p n c] w fun (e : Ending) (w' : World) =>
 ∃ (p : Option Addr),
 ∃ (n : Nat),
 ∃ (c : Nat),
 ∃ (p_1 : Option Addr),
 ∃ (n_1 : Nat),
 ∃ (c_1 : Nat),
 ∃ (x : Int),
 e =
 Ending.returned
 (Value.tuple #[Value.agg #[Value.slice p n c, Value.slice p_1 n_1 c_1], Value.int IntKind.i64 x]) ∧
 KeptL [] w w' ∧
 ∀ (n_2 : Nat) (W : World),
 Loc w.heap.size [Blk.mk n_2 74 [Value.slice p n c, Value.slice p_1 n_1 c_1] (wrM 2)] w' W →
 R (Ending.returned (Value.int IntKind.i64 x)) W
theorem vc_echeck (p : Option Addr) (n : Nat) (c : Nat) (w : World) (R : Ending → World → Prop) (h : VC_echeck p n c w R) : Calls Tryz.prog 19 ([Value.slice
    p n c] : List Value).toArray w R := by
  have e : execR2 { P := Tryz.prog, loops := [], pur := pur0, tails := [], joins := [], boxes := [] } Tryz.f19.results.toList R (Tryz.f19.body.getD .skip) (initF [Value.slice
    p n c] (Tryz.f19.ntmps - ([Value.slice p n c] : List Value).length)) w = VC_echeck p n c w R := by kernel_rfl
  have hb : Tryz.f19.body = some (Tryz.f19.body.getD .skip) := by kernel_rfl
  exact calls_of_exec2' (P := Tryz.prog) (fn := Tryz.f19) (c := Tryz.f19.body.getD .skip) (args := [Value.slice p n
    c]) (w := w) (R := R) pur0_ok Tryz.func19 hb e h

def VC_eleast (p : Option Addr) (n : Nat) (c : Nat) (id : Nat → Int) (dt : Int) (ar : Int) (gp : Option Addr) (gn : Nat) (gc : Nat) (by_ : Int) (ct : Int) (hp : Option Addr) (hn : Nat) (hc : Nat) (wd : Bool) (w : World) (R : Ending → World → Prop) : Prop :=
 ∀ (n_1 : Nat) (W : World),
 Loc w.heap.size
 [Blk.mk n_1 46
 (arrI IntKind.u8 id 32 0 ++ [Value.int IntKind.i64 dt, Value.int IntKind.i64 ar,
 Value.slice gp gn gc, Value.int IntKind.i64 by_, Value.int IntKind.i64 ct, Value.slice hp hn hc, Value.bool wd])
 2]
 w W →
 CallsS Tryz.prog 25 #[Value.slice p n c] W fun (e : Ending) (w' : World) =>
 ∃ (p : Option Addr),
 ∃ (n : Nat),
 ∃ (c : Nat),
 ∃ (p_1 : Option Addr),
 ∃ (n_2 : Nat),
 ∃ (c_1 : Nat),
 ∃ (x : Int),
 e =
 Ending.returned
 (Value.tuple #[Value.agg #[Value.slice p n c, Value.slice p_1 n_2 c_1], Value.int IntKind.i64 x]) ∧
 KeptL [n_1] W w' ∧
 ∀ (n_3 : Nat),
 bsp (x != 0)
 (∀ (W : World),
 Loc w.heap.size
 [Blk.mk n_3 74 [Value.slice p n c, Value.slice p_1 n_2 c_1] (wrM 2),
 Blk.mk n_1 46
 (arrI IntKind.u8 id 32 0 ++ [Value.int IntKind.i64 dt,
 Value.int IntKind.i64 ar, Value.slice gp gn gc, Value.int IntKind.i64 by_, Value.int IntKind.i64 ct,
 Value.slice hp hn hc, Value.bool wd])
 0]
 w' W →
 R (Ending.returned (Value.int IntKind.i64 0)) W)
 (∀ (W : World),
 Loc w.heap.size
 [Blk.mk n_3 74 [Value.slice p n c, Value.slice p_1 n_2 c_1] (wrM 2),
 Blk.mk n_1 46
 (arrI IntKind.u8 id 32 0 ++ [Value.int IntKind.i64 dt,
 Value.int IntKind.i64 ar, Value.slice gp gn gc, Value.int IntKind.i64 by_, Value.int IntKind.i64 ct,
 Value.slice hp hn hc, Value.bool wd])
 0]
 w' W →
 CallsS Tryz.prog 30
 #[Value.agg #[Value.slice p n c, Value.slice p_1 n_2 c_1],
 Value.agg
 (arrI IntKind.u8 id 32 0 ++ [Value.int IntKind.i64 dt,
 Value.int IntKind.i64 ar, Value.slice gp gn gc, Value.int IntKind.i64 by_, Value.int IntKind.i64 ct,
 Value.slice hp hn hc, Value.bool wd]).toArray]
 W fun (e : Ending) (w' : World) =>
 ∃ (x : Int),
 ∃ (x_1 : Int),
 e = Ending.returned (Value.tuple #[Value.int IntKind.i64 x, Value.int IntKind.i64 x_1]) ∧
 KeptL [n_3, n_1] W w' ∧ R (Ending.returned (Value.int IntKind.i64 x)) w')
theorem vc_eleast (p : Option Addr) (n : Nat) (c : Nat) (id : Nat → Int) (dt : Int) (ar : Int) (gp : Option Addr) (gn : Nat) (gc : Nat) (by_ : Int) (ct : Int) (hp : Option Addr) (hn : Nat) (hc : Nat) (wd : Bool) (w : World) (R : Ending → World → Prop) (h : VC_eleast p n c id dt ar gp gn gc by_ ct hp hn hc wd w R) : Calls Tryz.prog 13 ([Value.slice
    p n c,
  Value.agg
    (arrI IntKind.u8 id 32 0 ++
        [Value.int IntKind.i64 dt, Value.int IntKind.i64 ar, Value.slice gp gn gc, Value.int IntKind.i64 by_,
          Value.int IntKind.i64 ct, Value.slice hp hn hc, Value.bool wd]).toArray] : List Value).toArray w R := by
  have e : execR2 { P := Tryz.prog, loops := [], pur := pur0, tails := [], joins := [], boxes := [] } Tryz.f13.results.toList R (Tryz.f13.body.getD .skip) (initF [Value.slice
    p n c,
  Value.agg
    (arrI IntKind.u8 id 32 0 ++
        [Value.int IntKind.i64 dt, Value.int IntKind.i64 ar, Value.slice gp gn gc, Value.int IntKind.i64 by_,
          Value.int IntKind.i64 ct, Value.slice hp hn hc,
          Value.bool
            wd]).toArray] (Tryz.f13.ntmps - ([Value.slice p n c,
  Value.agg
    (arrI IntKind.u8 id 32 0 ++
        [Value.int IntKind.i64 dt, Value.int IntKind.i64 ar, Value.slice gp gn gc, Value.int IntKind.i64 by_,
          Value.int IntKind.i64 ct, Value.slice hp hn hc,
          Value.bool
            wd]).toArray] : List Value).length)) w = VC_eleast p n c id dt ar gp gn gc by_ ct hp hn hc wd w R := by kernel_rfl
  have hb : Tryz.f13.body = some (Tryz.f13.body.getD .skip) := by kernel_rfl
  exact calls_of_exec2' (P := Tryz.prog) (fn := Tryz.f13) (c := Tryz.f13.body.getD .skip) (args := [Value.slice p n c,
  Value.agg
    (arrI IntKind.u8 id 32 0 ++
        [Value.int IntKind.i64 dt, Value.int IntKind.i64 ar, Value.slice gp gn gc, Value.int IntKind.i64 by_,
          Value.int IntKind.i64 ct, Value.slice hp hn hc,
          Value.bool wd]).toArray]) (w := w) (R := R) pur0_ok Tryz.func13 hb e h

def VC_emost (p : Option Addr) (n : Nat) (c : Nat) (id : Nat → Int) (dt : Int) (ar : Int) (gp : Option Addr) (gn : Nat) (gc : Nat) (by_ : Int) (ct : Int) (hp : Option Addr) (hn : Nat) (hc : Nat) (wd : Bool) (w : World) (R : Ending → World → Prop) : Prop :=
 ∀ (n_1 : Nat) (W : World),
 Loc w.heap.size
 [Blk.mk n_1 46
 (arrI IntKind.u8 id 32 0 ++ [Value.int IntKind.i64 dt, Value.int IntKind.i64 ar,
 Value.slice gp gn gc, Value.int IntKind.i64 by_, Value.int IntKind.i64 ct, Value.slice hp hn hc, Value.bool wd])
 2]
 w W →
 CallsS Tryz.prog 25 #[Value.slice p n c] W fun (e : Ending) (w' : World) =>
 ∃ (p : Option Addr),
 ∃ (n : Nat),
 ∃ (c : Nat),
 ∃ (p_1 : Option Addr),
 ∃ (n_2 : Nat),
 ∃ (c_1 : Nat),
 ∃ (x : Int),
 e =
 Ending.returned
 (Value.tuple #[Value.agg #[Value.slice p n c, Value.slice p_1 n_2 c_1], Value.int IntKind.i64 x]) ∧
 KeptL [n_1] W w' ∧
 ∀ (n_3 : Nat),
 bsp (x != 0)
 (∀ (W : World),
 Loc w.heap.size
 [Blk.mk n_3 74 [Value.slice p n c, Value.slice p_1 n_2 c_1] (wrM 2),
 Blk.mk n_1 46
 (arrI IntKind.u8 id 32 0 ++ [Value.int IntKind.i64 dt,
 Value.int IntKind.i64 ar, Value.slice gp gn gc, Value.int IntKind.i64 by_, Value.int IntKind.i64 ct,
 Value.slice hp hn hc, Value.bool wd])
 0]
 w' W →
 R (Ending.returned (Value.int IntKind.i64 0)) W)
 (∀ (W : World),
 Loc w.heap.size
 [Blk.mk n_3 74 [Value.slice p n c, Value.slice p_1 n_2 c_1] (wrM 2),
 Blk.mk n_1 46
 (arrI IntKind.u8 id 32 0 ++ [Value.int IntKind.i64 dt,
 Value.int IntKind.i64 ar, Value.slice gp gn gc, Value.int IntKind.i64 by_, Value.int IntKind.i64 ct,
 Value.slice hp hn hc, Value.bool wd])
 0]
 w' W →
 CallsS Tryz.prog 30
 #[Value.agg #[Value.slice p n c, Value.slice p_1 n_2 c_1],
 Value.agg
 (arrI IntKind.u8 id 32 0 ++ [Value.int IntKind.i64 dt,
 Value.int IntKind.i64 ar, Value.slice gp gn gc, Value.int IntKind.i64 by_, Value.int IntKind.i64 ct,
 Value.slice hp hn hc, Value.bool wd]).toArray]
 W fun (e : Ending) (w' : World) =>
 ∃ (x : Int),
 ∃ (x_1 : Int),
 e = Ending.returned (Value.tuple #[Value.int IntKind.i64 x, Value.int IntKind.i64 x_1]) ∧
 KeptL [n_3, n_1] W w' ∧ R (Ending.returned (Value.int IntKind.i64 x_1)) w')
theorem vc_emost (p : Option Addr) (n : Nat) (c : Nat) (id : Nat → Int) (dt : Int) (ar : Int) (gp : Option Addr) (gn : Nat) (gc : Nat) (by_ : Int) (ct : Int) (hp : Option Addr) (hn : Nat) (hc : Nat) (wd : Bool) (w : World) (R : Ending → World → Prop) (h : VC_emost p n c id dt ar gp gn gc by_ ct hp hn hc wd w R) : Calls Tryz.prog 14 ([Value.slice
    p n c,
  Value.agg
    (arrI IntKind.u8 id 32 0 ++
        [Value.int IntKind.i64 dt, Value.int IntKind.i64 ar, Value.slice gp gn gc, Value.int IntKind.i64 by_,
          Value.int IntKind.i64 ct, Value.slice hp hn hc, Value.bool wd]).toArray] : List Value).toArray w R := by
  have e : execR2 { P := Tryz.prog, loops := [], pur := pur0, tails := [], joins := [], boxes := [] } Tryz.f14.results.toList R (Tryz.f14.body.getD .skip) (initF [Value.slice
    p n c,
  Value.agg
    (arrI IntKind.u8 id 32 0 ++
        [Value.int IntKind.i64 dt, Value.int IntKind.i64 ar, Value.slice gp gn gc, Value.int IntKind.i64 by_,
          Value.int IntKind.i64 ct, Value.slice hp hn hc,
          Value.bool
            wd]).toArray] (Tryz.f14.ntmps - ([Value.slice p n c,
  Value.agg
    (arrI IntKind.u8 id 32 0 ++
        [Value.int IntKind.i64 dt, Value.int IntKind.i64 ar, Value.slice gp gn gc, Value.int IntKind.i64 by_,
          Value.int IntKind.i64 ct, Value.slice hp hn hc,
          Value.bool
            wd]).toArray] : List Value).length)) w = VC_emost p n c id dt ar gp gn gc by_ ct hp hn hc wd w R := by kernel_rfl
  have hb : Tryz.f14.body = some (Tryz.f14.body.getD .skip) := by kernel_rfl
  exact calls_of_exec2' (P := Tryz.prog) (fn := Tryz.f14) (c := Tryz.f14.body.getD .skip) (args := [Value.slice p n c,
  Value.agg
    (arrI IntKind.u8 id 32 0 ++
        [Value.int IntKind.i64 dt, Value.int IntKind.i64 ar, Value.slice gp gn gc, Value.int IntKind.i64 by_,
          Value.int IntKind.i64 ct, Value.slice hp hn hc,
          Value.bool wd]).toArray]) (w := w) (R := R) pur0_ok Tryz.func14 hb e h

def VC_eheld (id : Nat → Int) (dt : Int) (ar : Int) (gp : Option Addr) (gn : Nat) (gc : Nat) (by_ : Int) (ct : Int) (hp : Option Addr) (hn : Nat) (hc : Nat) (wd : Bool) (f : FuncId) (fa : Array Value) (fb : Array Value) (w : World) (R : Ending → World → Prop) : Prop :=
 ∀ (n : Nat),
 ∃ (p : Option Addr),
 ∃ (n_1 : Nat),
 ∃ (c : Nat),
 (∀ (W : World),
 Loc w.heap.size
 [Blk.mk n 46
 (arrI IntKind.u8 id 32 0 ++ [Value.int IntKind.i64 dt,
 Value.int IntKind.i64 ar, Value.slice gp gn gc, Value.int IntKind.i64 by_, Value.int IntKind.i64 ct,
 Value.slice hp hn hc, Value.bool wd])
 2]
 w W →
 W.cell? (Addr.mk n (0 + 37) none) = some (Value.slice p n_1 c)) ∧
 ∀ (W : World),
 Loc w.heap.size
 [Blk.mk n 46
 (arrI IntKind.u8 id 32 0 ++ [Value.int IntKind.i64 dt,
 Value.int IntKind.i64 ar, Value.slice gp gn gc, Value.int IntKind.i64 by_, Value.int IntKind.i64 ct,
 Value.slice hp hn hc, Value.bool wd])
 2]
 w W →
 CallsS Tryz.prog 93 #[Value.slice p n_1 c, Value.func (Fn.func f) fa fb] W fun (e : Ending) (w' : World) =>
 ∃ (x : Bool),
 e = Ending.returned (Value.bool x) ∧ KeptL [n] W w' ∧ R (Ending.returned (Value.bool (true && x))) w'
theorem vc_eheld (id : Nat → Int) (dt : Int) (ar : Int) (gp : Option Addr) (gn : Nat) (gc : Nat) (by_ : Int) (ct : Int) (hp : Option Addr) (hn : Nat) (hc : Nat) (wd : Bool) (f : FuncId) (fa : Array Value) (fb : Array Value) (w : World) (R : Ending → World → Prop) (h : VC_eheld id dt ar gp gn gc by_ ct hp hn hc wd f fa fb w R) : Calls Tryz.prog 68 ([Value.agg
    (arrI IntKind.u8 id 32 0 ++
        [Value.int IntKind.i64 dt, Value.int IntKind.i64 ar, Value.slice gp gn gc, Value.int IntKind.i64 by_,
          Value.int IntKind.i64 ct, Value.slice hp hn hc, Value.bool wd]).toArray,
  Value.func (Fn.func f) fa fb] : List Value).toArray w R := by
  have e : execR2 { P := Tryz.prog, loops := [], pur := pur0, tails := [], joins := [], boxes := [] } Tryz.f68.results.toList R (Tryz.f68.body.getD .skip) (initF [Value.agg
    (arrI IntKind.u8 id 32 0 ++
        [Value.int IntKind.i64 dt, Value.int IntKind.i64 ar, Value.slice gp gn gc, Value.int IntKind.i64 by_,
          Value.int IntKind.i64 ct, Value.slice hp hn hc, Value.bool wd]).toArray,
  Value.func (Fn.func f) fa
    fb] (Tryz.f68.ntmps - ([Value.agg
    (arrI IntKind.u8 id 32 0 ++
        [Value.int IntKind.i64 dt, Value.int IntKind.i64 ar, Value.slice gp gn gc, Value.int IntKind.i64 by_,
          Value.int IntKind.i64 ct, Value.slice hp hn hc, Value.bool wd]).toArray,
  Value.func (Fn.func f) fa
    fb] : List Value).length)) w = VC_eheld id dt ar gp gn gc by_ ct hp hn hc wd f fa fb w R := by kernel_rfl
  have hb : Tryz.f68.body = some (Tryz.f68.body.getD .skip) := by kernel_rfl
  exact calls_of_exec2' (P := Tryz.prog) (fn := Tryz.f68) (c := Tryz.f68.body.getD .skip) (args := [Value.agg
    (arrI IntKind.u8 id 32 0 ++
        [Value.int IntKind.i64 dt, Value.int IntKind.i64 ar, Value.slice gp gn gc, Value.int IntKind.i64 by_,
          Value.int IntKind.i64 ct, Value.slice hp hn hc, Value.bool wd]).toArray,
  Value.func (Fn.func f) fa fb]) (w := w) (R := R) pur0_ok Tryz.func68 hb e h

def VC_eheldN (id : Nat → Int) (dt : Int) (ar : Int) (gp : Option Addr) (gn : Nat) (gc : Nat) (by_ : Int) (ct : Int) (hp : Option Addr) (hn : Nat) (hc : Nat) (wd : Bool) (w : World) (R : Ending → World → Prop) : Prop :=
 ∀ (n : Nat),
 ∃ (p : Option Addr),
 ∃ (n_1 : Nat),
 ∃ (c : Nat),
 True ∧
 ∀ (W : World),
 Loc w.heap.size
 [Blk.mk n 46
 (arrI IntKind.u8 id 32 0 ++ [Value.int IntKind.i64 dt,
 Value.int IntKind.i64 ar, Value.slice gp gn gc, Value.int IntKind.i64 by_, Value.int IntKind.i64 ct,
 Value.slice hp hn hc, Value.bool wd])
 2]
 w W →
 KeptL [n] W W ∧ R (Ending.returned (Value.bool false)) W
theorem vc_eheldN (id : Nat → Int) (dt : Int) (ar : Int) (gp : Option Addr) (gn : Nat) (gc : Nat) (by_ : Int) (ct : Int) (hp : Option Addr) (hn : Nat) (hc : Nat) (wd : Bool) (w : World) (R : Ending → World → Prop) (h : VC_eheldN id dt ar gp gn gc by_ ct hp hn hc wd w R) : Calls Tryz.prog 68 ([Value.agg
    (arrI IntKind.u8 id 32 0 ++
        [Value.int IntKind.i64 dt, Value.int IntKind.i64 ar, Value.slice gp gn gc, Value.int IntKind.i64 by_,
          Value.int IntKind.i64 ct, Value.slice hp hn hc, Value.bool wd]).toArray,
  Value.nilFunc] : List Value).toArray w R := by
  have e : execR2 { P := Tryz.prog, loops := [], pur := pur0, tails := [], joins := [], boxes := [] } Tryz.f68.results.toList R (Tryz.f68.body.getD .skip) (initF [Value.agg
    (arrI IntKind.u8 id 32 0 ++
        [Value.int IntKind.i64 dt, Value.int IntKind.i64 ar, Value.slice gp gn gc, Value.int IntKind.i64 by_,
          Value.int IntKind.i64 ct, Value.slice hp hn hc, Value.bool wd]).toArray,
  Value.nilFunc] (Tryz.f68.ntmps - ([Value.agg
    (arrI IntKind.u8 id 32 0 ++
        [Value.int IntKind.i64 dt, Value.int IntKind.i64 ar, Value.slice gp gn gc, Value.int IntKind.i64 by_,
          Value.int IntKind.i64 ct, Value.slice hp hn hc, Value.bool wd]).toArray,
  Value.nilFunc] : List Value).length)) w = VC_eheldN id dt ar gp gn gc by_ ct hp hn hc wd w R := by kernel_rfl
  have hb : Tryz.f68.body = some (Tryz.f68.body.getD .skip) := by kernel_rfl
  exact calls_of_exec2' (P := Tryz.prog) (fn := Tryz.f68) (c := Tryz.f68.body.getD .skip) (args := [Value.agg
    (arrI IntKind.u8 id 32 0 ++
        [Value.int IntKind.i64 dt, Value.int IntKind.i64 ar, Value.slice gp gn gc, Value.int IntKind.i64 by_,
          Value.int IntKind.i64 ct, Value.slice hp hn hc, Value.bool wd]).toArray,
  Value.nilFunc]) (w := w) (R := R) pur0_ok Tryz.func68 hb e h

def VC_econt (p : Option Addr) (n : Nat) (c : Nat) (f : FuncId) (fa : Array Value) (fb : Array Value) (w : World) (R : Ending → World → Prop) : Prop :=
 CallsS Tryz.prog 113 #[Value.slice p n c, Value.func (Fn.func f) fa fb] w fun (e : Ending) (w' : World) =>
 ∃ (x : Int),
 e = Ending.returned (Value.int IntKind.i64 x) ∧ KeptL [] w w' ∧ R (Ending.returned (Value.bool (decide (x ≥ 0)))) w'
theorem vc_econt (p : Option Addr) (n : Nat) (c : Nat) (f : FuncId) (fa : Array Value) (fb : Array Value) (w : World) (R : Ending → World → Prop) (h : VC_econt p n c f fa fb w R) : Calls Tryz.prog 93 ([Value.slice
    p n c,
  Value.func (Fn.func f) fa fb] : List Value).toArray w R := by
  have e : execR2 { P := Tryz.prog, loops := [], pur := pur0, tails := [], joins := [], boxes := [] } Tryz.f93.results.toList R (Tryz.f93.body.getD .skip) (initF [Value.slice
    p n c,
  Value.func (Fn.func f) fa
    fb] (Tryz.f93.ntmps - ([Value.slice p n c,
  Value.func (Fn.func f) fa fb] : List Value).length)) w = VC_econt p n c f fa fb w R := by kernel_rfl
  have hb : Tryz.f93.body = some (Tryz.f93.body.getD .skip) := by kernel_rfl
  exact calls_of_exec2' (P := Tryz.prog) (fn := Tryz.f93) (c := Tryz.f93.body.getD .skip) (args := [Value.slice p n c,
  Value.func (Fn.func f) fa fb]) (w := w) (R := R) pur0_ok Tryz.func93 hb e h

def VC_eidxI (p : Option Addr) (n : Nat) (c : Nat) (f : FuncId) (fa : Array Value) (fb : Array Value) (w : World) (R : Ending → World → Prop) : Prop :=
 ∃ (I : List Value → World → Prop),
 ∃ (m : List Value → World → Nat),
 I [Value.int IntKind.i64 0] w ∧
 ∀ (x : Int) (w' : World),
 I [Value.int IntKind.i64 x] w' →
 bsp (decide (x < (↑n : Int)))
 (nn true p fun (b o : Nat) =>
 (0 ≤ x ∧ x < (↑n : Int)) ∧
 ∃ (f_1 : Nat → Int),
 AtL w' b (o + x.toNat * 32)
 (arrI IntKind.u8 f_1 32 0) ∧
 ∃ (f_2 : Nat),
 ∃ (a : Array Value),
 ∃ (b : Array Value),
 Value.func (Fn.func f) fa fb = Value.func (Fn.func f_2) a b ∧
 okFn Tryz.prog f_2 = true ∧
 CallsS Tryz.prog f_2
 (appA a
 [Value.agg
 (arrI IntKind.u8 f_1 32 0).toArray]
 b)
 w' fun (e : Ending) (w'_1 : World) =>
 ∃ (x_1 : Bool),
 e = Ending.returned (Value.bool x_1) ∧
 KeptL [] w' w'_1 ∧
 bsp x_1 (R (Ending.returned (Value.int IntKind.i64 x)) w'_1)
 (I [Value.int IntKind.i64 (IntKind.i64.wrap (x + 1))] w'_1 ∧
 m [Value.int IntKind.i64 (IntKind.i64.wrap (x + 1))] w'_1 < m [Value.int IntKind.i64 x] w'))
 (R (Ending.returned (Value.int IntKind.i64 (-1))) w')
theorem vc_eidxI (p : Option Addr) (n : Nat) (c : Nat) (f : FuncId) (fa : Array Value) (fb : Array Value) (w : World) (R : Ending → World → Prop) (h : VC_eidxI p n c f fa fb w R) : Calls Tryz.prog 113 ([Value.slice
    p n c,
  Value.func (Fn.func f) fa fb] : List Value).toArray w R := by
  have e : execR2 { P := Tryz.prog, loops := [(2, [(8, Ck.int IntKind.i64)])], pur := pur0, tails := [], joins := [], boxes := [] } Tryz.f113.results.toList R (Tryz.f113.body.getD .skip) (initF [Value.slice
    p n c,
  Value.func (Fn.func f) fa
    fb] (Tryz.f113.ntmps - ([Value.slice p n c,
  Value.func (Fn.func f) fa fb] : List Value).length)) w = VC_eidxI p n c f fa fb w R := by kernel_rfl
  have hb : Tryz.f113.body = some (Tryz.f113.body.getD .skip) := by kernel_rfl
  exact calls_of_exec2' (P := Tryz.prog) (fn := Tryz.f113) (c := Tryz.f113.body.getD .skip) (args := [Value.slice p n c,
  Value.func (Fn.func f) fa fb]) (w := w) (R := R) pur0_ok Tryz.func113 hb e h

end Go.Proofs.YtmjanmffnblcoaaGreatDoor

/- Chapter 42: the contracts of compile, of, days, Check, Least and Most. No condition but sizes. -/
namespace Go.Proofs.YtmjanmffnblcoaaGreatDoor
open Go.RowKit

def rlC (r : Rl) : List Value := [.string r.pat, .int .i64 r.lo, .int .i64 r.hi]
theorem rlC_length (r : Rl) : (rlC r).length = 3 := rfl
def ptrV (b : Nat) : Value := .pointer (some ⟨b, 0, none⟩)
/-- An article in the memory. -/
structure AX where
  id : Nat → Int
  dt : Int
  ar : Int
  gp : Option Addr
  gc : Nat
  gs : List ByteArray
  by_ : Int
  ct : Int
  hp : Option Addr
  hc : Nat
  hs : List (Nat → Int)
  wd : Bool
abbrev idL (f : Nat → Int) : List Value := arrI .u8 f 32 0
def axC (x : AX) : List Value := arrI .u8 x.id 32 0 ++ ([.int .i64 x.dt, .int .i64 x.ar, .slice x.gp x.gs.length x.gc, .int .i64 x.by_, .int .i64 x.ct, .slice x.hp x.hs.length x.hc, .bool x.wd] : List Value)
structure AXR (w : World) (x : AX) : Prop where
  gs : StrP w x.gp x.gs
  hs : RowA idL 32 w x.hp x.hs
theorem AXR.k0 {w w' : World} {x : AX} (h : AXR w x) (hk : K0 w w') : AXR w' x := ⟨h.gs.k0 hk, h.hs.k0 hk⟩
def AX.pl (x : AX) : Ar := ⟨idI x.id, x.dt, x.ar, x.gs, x.by_, x.ct, x.hs.map idI, x.wd⟩
theorem rlF_app : ∀ a b : List Rl, rlF (a ++ b) = if rlF a ≠ 0 then rlF a else rlF b
  | [], b => by simp [rlF]
  | x :: a, b => by
    have e : ∀ (y : Rl) (l : List Rl), rlF (y :: l) = if rl1 y ≠ 0 then rl1 y else rlF l := fun _ _ => rfl
    rw [List.cons_append, e, e, rlF_app a b]
    by_cases h : rl1 x = 0
    · simp [h]
    · simp [h]
theorem rlF_hit {L : List Rl} {i : Nat} {r : Rl} (h : rlF (L.take i) = 0) (hr : L[i]? = some r) (h1 : rl1 r ≠ 0) : rlF L = rl1 r := by
  have hi : i < L.length := (List.getElem?_eq_some_iff.1 hr).1
  have e : L = L.take i ++ r :: L.drop (i + 1) := by
    conv => lhs; rw [← List.take_append_drop i L]
    rw [List.drop_eq_getElem_cons hi]
    rw [List.getElem?_eq_getElem hi] at hr
    simp at hr
    rw [hr]
  rw [e, rlF_app, if_neg (by simpa using h)]
  unfold rlF
  rw [if_pos h1]
theorem rlF_next {L : List Rl} {i : Nat} {r : Rl} (h : rlF (L.take i) = 0) (hr : L[i]? = some r) (h1 : rl1 r = 0) : rlF (L.take (i + 1)) = 0 := by
  rw [take_snoc hr, rlF_app, if_neg (by simpa using h)]
  unfold rlF
  rw [if_neg (by simpa using h1)]; rfl

/-- The patterns of rules in the memory. -/
structure RlsR (N : Nat) (w : World) (q : Option Addr) (d : Nat) (L : List Rl) (bs : List Nat) : Prop where
  own : w.ownsRow N 94 1 (.slice q bs.length d) bs.length (bs.map ptrV)
  pat : ∀ (k b : Nat) (r : Rl), bs[k]? = some b → L[k]? = some r → PatR (fun k => N ≤ k) w b r.pat (elsOf r)
theorem RlsR.k0 {N : Nat} {w w' : World} {q : Option Addr} {d : Nat} {L : List Rl} {bs : List Nat} (h : RlsR N w q d L bs) (hk : K0 w w') : RlsR N w' q d L bs :=
  ⟨owns_kp h.own hk (fun _ _ h => h), fun k b r h1 h2 => (h.pat k b r h1 h2).kp hk (fun _ _ _ h => h)⟩
theorem elsOf_len (r : Rl) : (elsOf r).length ≤ 80 := by
  unfold elsOf
  split
  · rename_i e h; exact compileR_len h
  · simp

set_option maxHeartbeats 1000000 in
theorem ecompile_any (L : List Rl) (p : Option Addr) (c : Nat) (w : World) (hR : RowA rlC 3 w p L) :
    Calls Tryz.prog 25 #[.slice p L.length c] w fun e w' => K0 w w' ∧
      ((chkR L = 0 ∧ ∃ q d bs, e = .returned (.tuple #[.agg #[.slice p L.length c, .slice q L.length d], .int .i64 0]) ∧ bs.length = L.length ∧ RlsR w.heap.size w' q d L bs)
       ∨ (chkR L ≠ 0 ∧ e = .returned (.tuple #[.agg #[.slice none 0 0, .slice none 0 0], .int .i64 (chkR L)]))) := by
  refine vc_ecompile p L.length c w _ ?_
  intro n1
  refine bsp_intro (fun h => fun W hW => ?_) (fun h => ?_)
  · have h : 64 < L.length := by simp at h; omega
    have e : chkR L = 9 := by unfold chkR; rw [if_pos h]
    exact ⟨hW.kk rfl, .inr ⟨by rw [e]; decide, by rw [e]⟩⟩
  have h : L.length ≤ 64 := by simp at h; omega
  have eC : chkR L = rlF L := by unfold chkR; rw [if_neg (by omega)]
  rw [eC]
  intro n2 W hW
  have kW : K0 w W := hW.kk rfl
  have g1 : w.heap.size ≤ n1 := hW.fresh 1 rfl rfl
  have g2 : w.heap.size ≤ n2 := hW.fresh 0 rfl rfl
  have hne : n1 ≠ n2 := hW.apart 1 0 rfl rfl (by decide)
  refine ⟨fun vs w' => ∃ (i : Nat) (q : Option Addr) (d : Nat) (bs : List Nat), vs = [.int .i64 (i : Int)] ∧ i ≤ L.length ∧ rlF (L.take i) = 0 ∧ bs.length = i ∧ w'.heap[n2]? = some (.cells #[.slice p L.length c, .slice q i d] 74 (0, 0)) ∧ w'.heap[n1]? = some (.cells #[.slice none 0 0, .slice none 0 0] 74 (0, 0)) ∧ RlsR w.heap.size w' q d L bs ∧ K0 w w',
    fun vs _ => (match vs with | .int _ x :: _ => L.length - x.toNat | _ => 0), ⟨0, none, 0, [], rfl, by omega, rfl, rfl, hW.cells 0 rfl, hW.cells 1 rfl, ⟨World.ownsRow_nil _ _ _ _, fun k b r h _ => by simp at h⟩, kW⟩, ?_⟩
  rintro x w1 ⟨i, q, d, bs, hv, hi, hok, hbs, hb2, hb1, hrl, k1⟩
  simp only [List.cons.injEq, Value.int.injEq, true_and, and_true] at hv
  subst hv
  have hn1 : n1 < w1.heap.size := block_lt hb1
  have hn2 : n2 < w1.heap.size := block_lt hb2
  refine bsp_intro (fun hlt => ?_) (fun hge => ?_)
  · have hlt : i < L.length := by simp at hlt; omega
    obtain ⟨r, b, o, hr, rfl, hat⟩ := (hR.k0 k1).get hlt
    show (0 ≤ (i : Int) ∧ (i : Int) < (L.length : Int)) ∧ _
    rw [Int.toNat_natCast]
    refine ⟨by omega, r.pat, r.lo, r.hi, hat, fun n W1 hW1 => ?_⟩
    have kk1 : K0 w1 W1 := hW1.kk rfl
    have gn : w1.heap.size ≤ n := hW1.fresh 0 rfl rfl
    refine ⟨(compile_any r.pat W1).mono fun e w2 ⟨hk2, he⟩ => ?_⟩
    have k12 : K0 w1 w2 := kk1.trans hk2
    have kw2 : K0 w w2 := k1.trans k12
    have hb1' := k12.blk hb1 (fun h => h)
    have hb2' := k12.blk hb2 (fun h => h)
    have hbn := hk2.blk (hW1.cells 0 rfl) (fun h => h)
    have hnW : n < w2.heap.size := block_lt hbn
    -- an error
    have fail : ∀ x : Int, x ≠ 0 → rl1 r = x → WrL w2 n1 0 2 ∧ rlF L = x ∧ ∀ (w3 : World), PutB w2 n1 0 [Value.slice none 0 0, Value.slice none 0 0] w3 → KeptL [n] w2 w3 ∧ AtL w3 n1 0 [Value.slice none 0 0, Value.slice none 0 0] ∧ K0 w w3 := by
      intro x hx hrx
      have hF : rlF L = x := by rw [rlF_hit hok hr (by rw [hrx]; exact hx), hrx]
      exact ⟨WrL_block hb1' (Nat.le_refl 2), hF, fun w3 hp => ⟨put_kept hp (fun m hm => by simp at hm; omega), AtL_block (hp.full hb1' rfl) rfl, put_k0 kw2 hp g1⟩⟩
    cases hc : compileR r.pat with
    | inr oe =>
      obtain ⟨o', e'⟩ := oe
      rw [hc] at he
      have hne0 := (compileR_off _ _ _ hc).2
      refine ⟨_, _, _, he, .of_k0 hk2, bsp_intro (fun _ => ?_) (fun h => ?_)⟩
      · obtain ⟨f1, hF, f2⟩ := fail 3 (by decide) (by unfold rl1; rw [hc])
        refine ⟨f1, fun w3 hp => ?_⟩
        obtain ⟨a1, a2, a3⟩ := f2 w3 hp
        exact ⟨a1, _, _, _, _, _, _, a2, a3, .inr ⟨by rw [hF]; decide, by rw [hF]⟩⟩
      · exfalso; simp at h; exact hne0 h
    | inl els =>
      rw [hc] at he
      obtain ⟨bp, he, hpat⟩ := he
      refine ⟨_, _, _, he, .of_k0 hk2, bsp_intro (fun h => by simp at h) (fun _ => ?_)⟩
      refine ⟨r.lo, gimp_intro fun _ => cell_at hbn rfl, r.hi, gimp_intro fun _ => cell_at hbn rfl, r.hi, gimp_intro fun _ => cell_at hbn rfl, bsp_intro (fun hbad => ?_) (fun hgood => ?_)⟩
      · obtain ⟨f1, hF, f2⟩ := fail 2 (by decide) (by
          unfold rl1
          rw [hc]
          simp only
          rw [if_pos]
          simp at hbad
          omega)
        refine ⟨f1, fun w3 hp => ?_⟩
        obtain ⟨a1, a2, a3⟩ := f2 w3 hp
        exact ⟨a1, _, _, _, _, _, _, a2, a3, .inr ⟨by rw [hF]; decide, by rw [hF]⟩⟩
      · have hr1 : rl1 r = 0 := by
          unfold rl1
          rw [hc]
          simp only
          rw [if_neg]
          simp at hgood
          omega
        refine ⟨q, i, d, cell_at hb2' rfl, fun n4 W4 hW4 => ?_⟩
        have k24 : K0 w2 W4 := hW4.kk rfl
        have kw4 : K0 w W4 := kw2.trans k24
        have ho4 := owns_kp hrl.own (k12.trans k24) (fun _ _ h => h)
        rw [hbs] at ho4
        refine ⟨w.heap.size, _, ho4, by omega, by omega, kw4.size, fun p' c' w5 ho5 hg5 _ => ?_⟩
        have hk5 := kp_grown hg5
        have kw5 : K0 w w5 := kw4.fresh hk5 (fun j hj e => by have := own_ge ho4 e; omega)
        have nrow : ∀ (m : Nat) (c : Array Value) (t : TypeId) (f : Nat × Nat), t ≠ 94 → W4.heap[m]? = some (.cells c t f) → ¬ (Value.slice q i d).ownBlock = some m := fun m c t f ht hm e => by
          obtain ⟨c', h'⟩ := own_type ho4 e
          rw [hm] at h'
          simp at h'
          exact ht h'.2.1
        have hb2'' := hk5.blk (k24.blk hb2' (fun h => h)) (nrow n2 _ _ _ (by decide) (k24.blk hb2' (fun h => h)))
        have hb1'' := hk5.blk (k24.blk hb1' (fun h => h)) (nrow n1 _ _ _ (by decide) (k24.blk hb1' (fun h => h)))
        have hbn'' := nrow n _ 40 _ (by decide) (k24.blk hbn (fun h => h))
        refine ⟨.of_kp hk5 (fun m hm => by simp at hm; subst hm; exact hbn''), cell_wr hb2'' (Nat.le_refl 2), fun w6 hp6 => ?_⟩
        have hl5 : L.length - (i + 1) < L.length - i := by omega
        refine ⟨put_kept hp6 (fun m hm => by simp at hm; omega), ⟨i + 1, p', c', bs ++ [bp], by rw [inc64 (by omega)], hlt, rlF_next hok hr hr1, by simp [hbs], ?_, hp6.blk hb1'' hne, ⟨?_, ?_⟩, put_k0 kw5 hp6 g2⟩, ?_⟩
        · rw [hp6.block hb2'']; rfl
        · have := owns_kp ho5 hp6.kp (fun k hk e => by
            obtain ⟨c9, h9⟩ := own_type ho5 hk
            subst e
            rw [hb2''] at h9
            simp at h9)
          simpa [ptrV, hbs] using this
        · have keep : ∀ {b' : Nat} {s : ByteArray} {els : List El}, PatR (fun k => w.heap.size ≤ k) W4 b' s els → PatR (fun k => w.heap.size ≤ k) w6 b' s els := fun h4 =>
            (h4.kpT hk5 (fun k cc t f e hh => by
              obtain ⟨c9, h9⟩ := own_type ho4 e
              rw [hh] at h9
              simp at h9
              rw [h9.2.1]
              exact ⟨by decide, by decide⟩)).kpT hp6.kp (fun k cc t f e hh => by
              subst e
              rw [hb2''] at hh
              simp at hh
              rw [← hh.2.1]
              exact ⟨by decide, by decide⟩)
          intro k b' r' hb' hr'
          rcases Nat.lt_or_ge k bs.length with hk | hk
          · rw [List.getElem?_append_left hk] at hb'
            exact keep ((hrl.pat k b' r' hb' hr').kp (k12.trans k24) (fun _ _ _ h => h))
          · rw [List.getElem?_append_right hk] at hb'
            have hk0 : k - bs.length = 0 := by
              have := (List.getElem?_eq_some_iff.1 hb').1
              simp at this
              omega
            rw [hk0] at hb'
            simp at hb'
            subst hb'
            have : k = i := by omega
            subst this
            rw [hr] at hr'
            simp at hr'
            subst hr'
            have he : elsOf r = els := by unfold elsOf; rw [hc]
            rw [he]
            exact keep ((hpat.mono (fun k hk _ => Nat.le_trans (k1.trans kk1).size hk)).kp k24 (fun _ _ _ h => h))
        · rw [inc64 (by omega)]; simp only [Int.toNat_natCast]; exact hl5
  · have hi : i = L.length := by simp at hge; omega
    have hF : rlF L = 0 := by rw [hi, List.take_length] at hok; exact hok
    refine ⟨_, _, _, _, _, _, AtL_block hb2 rfl, WrL_block hb1 (by decide), fun w3 hp => ⟨put_kept hp (fun m hm => by cases hm), _, _, _, _, _, _, AtL_block (hp.full hb1 rfl) rfl, put_k0 k1 hp g1, .inl ⟨hF, q, d, bs, by rw [hi], by omega, ?_, ?_⟩⟩⟩
    · refine owns_kp hrl.own hp.kp (fun k hk e => by
        obtain ⟨c9, h9⟩ := own_type hrl.own hk
        subst e
        rw [hb1] at h9
        simp at h9)
    · intro k b' r' hb' hr'
      refine (hrl.pat k b' r' hb' hr').kpT hp.kp (fun k cc t f e hh => by
        subst e
        rw [hb1] at hh
        simp at hh
        rw [← hh.2.1]
        exact ⟨by decide, by decide⟩)

end Go.Proofs.YtmjanmffnblcoaaGreatDoor

/- Chapter 42: the contracts of of, days, Check, Least and Most. Names have at most 2^63 bytes. -/
namespace Go.Proofs.YtmjanmffnblcoaaGreatDoor
open Go.RowKit

theorem eof_any {N : Nat} (L : List Rl) (p : Option Addr) (c : Nat) (q : Option Addr) (d : Nat) (bs : List Nat) (g : ByteArray) (w : World) (hR : RowA rlC 3 w p L) (hP : RlsR N w q d L bs) (hb : bs.length = L.length) (hL : L.length ≤ 64) (hg : g.size ≤ 9223372036854775807) :
    Calls Tryz.prog 53 #[.agg #[.slice p L.length c, .slice q L.length d], .string g] w fun e w' => (∃ s : ByteArray, e = .returned (.agg #[.string s, .int .i64 (ofR L g).1, .int .i64 (ofR L g).2])) ∧ K0 w w' := by
  refine vc_eof p L.length c q L.length d g w _ ?_
  intro n1 n2 W hW
  have kW : K0 w W := hW.kk rfl
  have hne : n2 ≠ n1 := hW.apart 0 1 rfl rfl (by decide)
  have g2 : w.heap.size ≤ n2 := hW.fresh 0 rfl rfl
  refine ⟨fun vs w' => ∃ i : Nat, vs = [.int .i64 ((i : Int) - 1)] ∧ i ≤ L.length ∧ ofR (L.take i) g = ofR L g ∧ w'.heap[n2]? = some (.cells #[.string ⟨#[]⟩, .int .i64 0, .int .i64 0] 40 (0, 0)) ∧ K0 w w',
    fun vs _ => (match vs with | .int _ x :: _ => (x + 1).toNat | _ => 0), ⟨L.length, by rw [wr64 (by omega) (by omega)], by omega, by rw [List.take_length], hW.cells 0 rfl, kW⟩, ?_⟩
  rintro x w1 ⟨i, hv, hi, hof, hb2, k1⟩ hL1
  simp only [List.cons.injEq, Value.int.injEq, true_and, and_true] at hv
  subst hv
  refine bsp_intro (fun hlt => ?_) (fun hge => ?_)
  · have hlt : 0 < i := by simp at hlt; omega
    obtain ⟨r, b, o, hr, rfl, hat⟩ := (hR.k0 k1).get (k := i - 1) (by omega)
    obtain ⟨bp, hbp⟩ : ∃ bp, bs[i - 1]? = some bp := ⟨_, List.getElem?_eq_getElem (by omega)⟩
    have hP1 := hP.k0 k1
    obtain ⟨gq, hq, hcq⟩ := own_cellL hP1.own (i := i - 1) (v := ptrV bp) (by rw [List.getElem?_map, hbp]; rfl)
    subst hq
    have e1 : ((i : Int) - 1).toNat = i - 1 := by omega
    show (0 ≤ (i : Int) - 1 ∧ (i : Int) - 1 < (L.length : Int)) ∧ _
    rw [e1]
    refine ⟨by omega, some ⟨bp, 0, none⟩, by rw [Nat.zero_add]; exact hcq, ?_⟩
    refine ⟨(match_any (hP1.pat _ _ _ hbp hr) (by have := elsOf_len r; omega) g hg).mono fun e w2 ⟨he, hk2⟩ => ⟨_, he, .of_k0 hk2, ?_⟩⟩
    have htk : L.take i = L.take (i - 1) ++ [r] := by
      have := take_snoc hr
      rwa [show i - 1 + 1 = i by omega] at this
    rw [htk, ofR_snoc] at hof
    have hb2' := hk2.blk hb2 (fun h => h)
    refine bsp_intro (fun hm => ?_) (fun hm => ?_)
    · have hm : hitR r g = true := hm
      rw [if_pos hm] at hof
      show (0 ≤ (i : Int) - 1 ∧ (i : Int) - 1 < (L.length : Int)) ∧ _
      refine ⟨by omega, r.pat, r.lo, r.hi, hat.k0 hk2, WrL_block hb2' (Nat.le_refl 3), fun w3 hp => ⟨put_kept hp (fun m hm => by simp at hm; omega), _, _, _, AtL_block (hp.full hb2' rfl) rfl, ⟨_, by rw [← hof]⟩, put_k0 (k1.trans hk2) hp g2⟩⟩
    · have hm : ¬ hitR r g = true := by
        have hm : hitR r g = false := hm
        simp [hm]
      rw [if_neg hm] at hof
      exact ⟨⟨i - 1, by rw [wr64 (by omega) (by omega)]; congr 2; omega, by omega, hof, hb2', k1.trans hk2⟩, by rw [wr64 (by omega) (by omega)]; simp only; omega⟩
  · have h0 : i = 0 := by simp at hge; omega
    subst h0
    refine ⟨WrL_block hb2 (Nat.le_refl 3), fun w3 hp => ⟨put_kept hp (fun m hm => by simp at hm; omega), _, _, _, AtL_block (hp.full hb2 rfl) rfl, ⟨_, by rw [← hof]; rfl⟩, put_k0 k1 hp g2⟩⟩

theorem daysF_cons (L : List Rl) (g : ByteArray) (gs : List ByteArray) (y : Int × Int) : daysF L (g :: gs) y = daysF L gs (max y.1 (ofR L g).1, max y.2 (ofR L g).2) := rfl
theorem edays_any {N : Nat} (L : List Rl) (p : Option Addr) (c : Nat) (q : Option Addr) (d : Nat) (bs : List Nat) (x : AX) (w : World) (hR : RowA rlC 3 w p L) (hP : RlsR N w q d L bs) (hb : bs.length = L.length) (hL : L.length ≤ 64) (hx : StrP w x.gp x.gs) (hl : x.gs.length ≤ 1048576) (hz : ∀ z ∈ x.gs, z.size ≤ 9223372036854775807) :
    Calls Tryz.prog 30 #[.agg #[.slice p L.length c, .slice q L.length d], .agg (axC x).toArray] w fun e w' => e = .returned (.tuple #[.int .i64 (daysR L x.gs).1, .int .i64 (daysR L x.gs).2]) ∧ K0 w w' := by
  refine vc_edays p L.length c q L.length d x.id x.dt x.ar x.gp x.gs.length x.gc x.by_ x.ct x.hp x.hs.length x.hc x.wd w _ ?_
  intro n1 n2
  refine bsp_intro (fun h => fun W hW => ?_) (fun h => fun W hW => ?_)
  · have h : x.gs = [] := by simpa using h
    exact ⟨by unfold daysR; rw [if_pos h], hW.kk rfl⟩
  have h : ¬ x.gs = [] := by simpa using h
  have eD : daysR L x.gs = daysF L x.gs (0, 0) := by unfold daysR; rw [if_neg h]
  rw [eD]
  have kW : K0 w W := hW.kk rfl
  refine ⟨fun vs w' => ∃ (i : Nat) (y : Int × Int), vs = [.int .i64 (i : Int), .int .i64 y.2, .int .i64 y.1] ∧ i ≤ x.gs.length ∧ daysF L (x.gs.drop i) y = daysF L x.gs (0, 0) ∧ K0 w w' ∧ w'.heap[n2]? = some (.cells (axC x).toArray 46 (0, 0)) ∧ w'.heap[n1]? = some (.cells #[.slice p L.length c, .slice q L.length d] 74 (0, 0)),
    fun vs _ => (match vs with | .int _ x1 :: _ => x.gs.length - x1.toNat | _ => 0), ⟨0, (0, 0), rfl, by omega, rfl, kW, hW.cells 0 rfl, hW.cells 1 rfl⟩, ?_⟩
  rintro x1 x2 x3 w1 ⟨i, y, hv, hi, hd, k1, hb2, hb1⟩ hL1
  simp only [List.cons.injEq, Value.int.injEq, true_and, and_true] at hv
  obtain ⟨rfl, rfl, rfl⟩ := hv
  refine bsp_intro (fun hlt => ?_) (fun hge => ?_)
  · have hlt : i < x.gs.length := by simp at hlt; omega
    obtain ⟨z, b, o, hzi, hgp, hc⟩ := (hx.k0 k1).get hlt
    rw [hgp]
    show (0 ≤ (i : Int) ∧ (i : Int) < (x.gs.length : Int)) ∧ _
    rw [Int.toNat_natCast]
    refine ⟨by omega, z, hc, ⟨(eof_any L p c q d bs z w1 (hR.k0 k1) (hP.k0 k1) hb hL (hz z (List.mem_of_getElem? hzi))).mono fun e w2 ⟨⟨s, he⟩, hk2⟩ => ⟨_, _, _, he, .of_k0 hk2, fun n3 W3 hW3 => ?_⟩⟩⟩
    have k3 : K0 w1 W3 := hk2.trans (hW3.kk rfl)
    refine ⟨⟨i + 1, (max y.1 (ofR L z).1, max y.2 (ofR L z).2), ?_, hlt, ?_, k1.trans k3, k3.blk hb2 (fun h => h), k3.blk hb1 (fun h => h)⟩, ?_⟩
    · rw [inc64 (by omega)]
      congr 2
      · simp only [Value.int.injEq, true_and]; split <;> omega
      · simp only [List.cons.injEq, Value.int.injEq, true_and, and_true]; split <;> omega
    · rw [← hd]
      have : x.gs.drop i = z :: x.gs.drop (i + 1) := by
        rw [List.drop_eq_getElem_cons hlt]
        rw [List.getElem?_eq_getElem hlt] at hzi
        simp at hzi
        rw [hzi]
      rw [this, daysF_cons]
    · rw [inc64 (by omega)]; simp only [Int.toNat_natCast]; omega
  · have hi : i = x.gs.length := by simp at hge; omega
    rw [hi, List.drop_length] at hd
    exact ⟨by rw [← hd]; rfl, k1⟩

theorem echeck_any (L : List Rl) (p : Option Addr) (c : Nat) (w : World) (hR : RowA rlC 3 w p L) :
    Calls Tryz.prog 19 #[.slice p L.length c] w fun e w' => e = .returned (.int .i64 (chkR L)) ∧ K0 w w' := by
  refine vc_echeck p L.length c w _ ⟨(ecompile_any L p c w hR).mono fun e w1 ⟨k1, he⟩ => ?_⟩
  rcases he with ⟨h0, q, d, bs, he, _⟩ | ⟨h0, he⟩
  · exact ⟨_, _, _, _, _, _, _, he, .of_k0 k1, fun n W hW => ⟨by rw [h0], k1.trans (hW.kk rfl)⟩⟩
  · exact ⟨_, _, _, _, _, _, _, he, .of_k0 k1, fun n W hW => ⟨rfl, k1.trans (hW.kk rfl)⟩⟩
theorem chkR_len {L : List Rl} (h : chkR L = 0) : L.length ≤ 64 := by
  unfold chkR at h
  split at h
  · cases h
  · omega
theorem eleast_any (L : List Rl) (p : Option Addr) (c : Nat) (x : AX) (w : World) (hR : RowA rlC 3 w p L) (hx : StrP w x.gp x.gs) (hl : x.gs.length ≤ 1048576) (hz : ∀ z ∈ x.gs, z.size ≤ 9223372036854775807) :
    Calls Tryz.prog 13 #[.slice p L.length c, .agg (axC x).toArray] w fun e w' => e = .returned (.int .i64 (if chkR L = 0 then (daysR L x.gs).1 else 0)) ∧ K0 w w' := by
  refine vc_eleast p L.length c x.id x.dt x.ar x.gp x.gs.length x.gc x.by_ x.ct x.hp x.hs.length x.hc x.wd w _ ?_
  intro n1 W hW
  have kW : K0 w W := hW.kk rfl
  refine ⟨(ecompile_any L p c W (hR.k0 kW)).mono fun e w1 ⟨k1, he⟩ => ?_⟩
  rcases he with ⟨h0, q, d, bs, he, hbs, hP⟩ | ⟨h0, he⟩
  · refine ⟨_, _, _, _, _, _, _, he, .of_k0 k1, fun n3 => bsp_intro (fun h => by simp at h) (fun _ W3 hW3 => ?_)⟩
    have k3 : K0 W W3 := k1.trans (hW3.kk rfl)
    exact ⟨(edays_any L p c q d bs x W3 (hR.k0 (kW.trans k3)) (hP.k0 (hW3.kk rfl)) hbs (chkR_len h0) (hx.k0 (kW.trans k3)) hl hz).mono fun e w4 ⟨he, k4⟩ => ⟨_, _, he, .of_k0 k4, by rw [if_pos h0], (kW.trans k3).trans k4⟩⟩
  · refine ⟨_, _, _, _, _, _, _, he, .of_k0 k1, fun n3 => bsp_intro (fun _ W3 hW3 => ⟨by rw [if_neg h0], (kW.trans k1).trans (hW3.kk rfl)⟩) (fun h => by simp at h; exact absurd h h0)⟩
theorem emost_any (L : List Rl) (p : Option Addr) (c : Nat) (x : AX) (w : World) (hR : RowA rlC 3 w p L) (hx : StrP w x.gp x.gs) (hl : x.gs.length ≤ 1048576) (hz : ∀ z ∈ x.gs, z.size ≤ 9223372036854775807) :
    Calls Tryz.prog 14 #[.slice p L.length c, .agg (axC x).toArray] w fun e w' => e = .returned (.int .i64 (if chkR L = 0 then (daysR L x.gs).2 else 0)) ∧ K0 w w' := by
  refine vc_emost p L.length c x.id x.dt x.ar x.gp x.gs.length x.gc x.by_ x.ct x.hp x.hs.length x.hc x.wd w _ ?_
  intro n1 W hW
  have kW : K0 w W := hW.kk rfl
  refine ⟨(ecompile_any L p c W (hR.k0 kW)).mono fun e w1 ⟨k1, he⟩ => ?_⟩
  rcases he with ⟨h0, q, d, bs, he, hbs, hP⟩ | ⟨h0, he⟩
  · refine ⟨_, _, _, _, _, _, _, he, .of_k0 k1, fun n3 => bsp_intro (fun h => by simp at h) (fun _ W3 hW3 => ?_)⟩
    have k3 : K0 W W3 := k1.trans (hW3.kk rfl)
    exact ⟨(edays_any L p c q d bs x W3 (hR.k0 (kW.trans k3)) (hP.k0 (hW3.kk rfl)) hbs (chkR_len h0) (hx.k0 (kW.trans k3)) hl hz).mono fun e w4 ⟨he, k4⟩ => ⟨_, _, he, .of_k0 k4, by rw [if_pos h0], (kW.trans k3).trans k4⟩⟩
  · refine ⟨_, _, _, _, _, _, _, he, .of_k0 k1, fun n3 => bsp_intro (fun _ W3 hW3 => ⟨by rw [if_neg h0], (kW.trans k1).trans (hW3.kk rfl)⟩) (fun h => by simp at h; exact absurd h h0)⟩

end Go.Proofs.YtmjanmffnblcoaaGreatDoor

/- The formulas of functions by the symbolic evaluator, and that each gives the call's contract. Written by a program (gen.py). No condition. -/
namespace Go.Proofs.YtmjanmffnblcoaaGreatDoor
set_option maxRecDepth 100000
set_option linter.unusedVariables false

def VC_isMinute (x : Int) (w : World) (R : Ending → World → Prop) : Prop :=
 R (Ending.returned (Value.bool (decide (x ≥ 0) && decide (x ≤ 105190559)))) w
theorem vc_isMinute (x : Int) (w : World) (R : Ending → World → Prop) (h : VC_isMinute x w R) : Calls Tryz.prog 26 ([Value.int
    IntKind.i64 x] : List Value).toArray w R := by
  have e : execR { P := Tryz.prog, loops := [], pur := pur0, tails := [], joins := [], boxes := [] } Tryz.f26.results.toList R (Tryz.f26.body.getD .skip) (initF [Value.int
    IntKind.i64
    x] (Tryz.f26.ntmps - ([Value.int IntKind.i64 x] : List Value).length)) w = VC_isMinute x w R := by kernel_rfl
  have hb : Tryz.f26.body = some (Tryz.f26.body.getD .skip) := by kernel_rfl
  exact calls_of_exec' (P := Tryz.prog) (fn := Tryz.f26) (c := Tryz.f26.body.getD .skip) (args := [Value.int IntKind.i64
    x]) (w := w) (R := R) pur0_ok Tryz.func26 hb e h

def VC_perm (x : Int) (w : World) (R : Ending → World → Prop) : Prop :=
 R (Ending.returned (Value.bool (x == 3 || x == 4 || x == 5))) w
theorem vc_perm (x : Int) (w : World) (R : Ending → World → Prop) (h : VC_perm x w R) : Calls Tryz.prog 38 ([Value.int
    IntKind.i64 x] : List Value).toArray w R := by
  have e : execR { P := Tryz.prog, loops := [], pur := pur0, tails := [], joins := [], boxes := [] } Tryz.f38.results.toList R (Tryz.f38.body.getD .skip) (initF [Value.int
    IntKind.i64
    x] (Tryz.f38.ntmps - ([Value.int IntKind.i64 x] : List Value).length)) w = VC_perm x w R := by kernel_rfl
  have hb : Tryz.f38.body = some (Tryz.f38.body.getD .skip) := by kernel_rfl
  exact calls_of_exec' (P := Tryz.prog) (fn := Tryz.f38) (c := Tryz.f38.body.getD .skip) (args := [Value.int IntKind.i64
    x]) (w := w) (R := R) pur0_ok Tryz.func38 hb e h

def VC_nanI (x : Int) (w : World) (R : Ending → World → Prop) : Prop :=
 R (Ending.returned (Value.bool (x != x))) w
theorem vc_nanI (x : Int) (w : World) (R : Ending → World → Prop) (h : VC_nanI x w R) : Calls Tryz.prog 66 ([Value.int
    IntKind.i64 x] : List Value).toArray w R := by
  have e : execR { P := Tryz.prog, loops := [], pur := pur0, tails := [], joins := [], boxes := [] } Tryz.f66.results.toList R (Tryz.f66.body.getD .skip) (initF [Value.int
    IntKind.i64
    x] (Tryz.f66.ntmps - ([Value.int IntKind.i64 x] : List Value).length)) w = VC_nanI x w R := by kernel_rfl
  have hb : Tryz.f66.body = some (Tryz.f66.body.getD .skip) := by kernel_rfl
  exact calls_of_exec' (P := Tryz.prog) (fn := Tryz.f66) (c := Tryz.f66.body.getD .skip) (args := [Value.int IntKind.i64
    x]) (w := w) (R := R) pur0_ok Tryz.func66 hb e h

def VC_nanB (x : Int) (w : World) (R : Ending → World → Prop) : Prop :=
 R (Ending.returned (Value.bool (x != x))) w
theorem vc_nanB (x : Int) (w : World) (R : Ending → World → Prop) (h : VC_nanB x w R) : Calls Tryz.prog 92 ([Value.int
    IntKind.u8 x] : List Value).toArray w R := by
  have e : execR { P := Tryz.prog, loops := [], pur := pur0, tails := [], joins := [], boxes := [] } Tryz.f92.results.toList R (Tryz.f92.body.getD .skip) (initF [Value.int
    IntKind.u8 x] (Tryz.f92.ntmps - ([Value.int IntKind.u8 x] : List Value).length)) w = VC_nanB x w R := by kernel_rfl
  have hb : Tryz.f92.body = some (Tryz.f92.body.getD .skip) := by kernel_rfl
  exact calls_of_exec' (P := Tryz.prog) (fn := Tryz.f92) (c := Tryz.f92.body.getD .skip) (args := [Value.int IntKind.u8
    x]) (w := w) (R := R) pur0_ok Tryz.func92 hb e h

def VC_cmpI2 (a : Int) (b : Int) (w : World) (R : Ending → World → Prop) : Prop :=
 CallsS Tryz.prog 66 #[Value.int IntKind.i64 a] w fun (e : Ending) (w' : World) =>
 ∃ (x : Bool),
 e = Ending.returned (Value.bool x) ∧
 CallsS Tryz.prog 66 #[Value.int IntKind.i64 b] w' fun (e : Ending) (w' : World) =>
 ∃ (x_1 : Bool),
 e = Ending.returned (Value.bool x_1) ∧
 bsp x
 (bsp x_1 (R (Ending.returned (Value.int IntKind.i64 0)) w')
 (R (Ending.returned (Value.int IntKind.i64 (-1))) w'))
 (bsp x_1 (R (Ending.returned (Value.int IntKind.i64 1)) w')
 (bsp (decide (a < b)) (R (Ending.returned (Value.int IntKind.i64 (-1))) w')
 (bsp (decide (a > b)) (R (Ending.returned (Value.int IntKind.i64 1)) w')
 (R (Ending.returned (Value.int IntKind.i64 0)) w'))))
theorem vc_cmpI2 (a : Int) (b : Int) (w : World) (R : Ending → World → Prop) (h : VC_cmpI2 a b w R) : Calls Tryz.prog 44 ([Value.int
    IntKind.i64 a,
  Value.int IntKind.i64 b] : List Value).toArray w R := by
  have e : execR { P := Tryz.prog, loops := [], pur := pur0, tails := [], joins := [], boxes := [] } Tryz.f44.results.toList R (Tryz.f44.body.getD .skip) (initF [Value.int
    IntKind.i64 a,
  Value.int IntKind.i64
    b] (Tryz.f44.ntmps - ([Value.int IntKind.i64 a,
  Value.int IntKind.i64 b] : List Value).length)) w = VC_cmpI2 a b w R := by kernel_rfl
  have hb : Tryz.f44.body = some (Tryz.f44.body.getD .skip) := by kernel_rfl
  exact calls_of_exec' (P := Tryz.prog) (fn := Tryz.f44) (c := Tryz.f44.body.getD .skip) (args := [Value.int IntKind.i64
    a,
  Value.int IntKind.i64 b]) (w := w) (R := R) pur0_ok Tryz.func44 hb e h

def VC_cmpB2 (a : Int) (b : Int) (w : World) (R : Ending → World → Prop) : Prop :=
 CallsS Tryz.prog 92 #[Value.int IntKind.u8 a] w fun (e : Ending) (w' : World) =>
 ∃ (x : Bool),
 e = Ending.returned (Value.bool x) ∧
 CallsS Tryz.prog 92 #[Value.int IntKind.u8 b] w' fun (e : Ending) (w' : World) =>
 ∃ (x_1 : Bool),
 e = Ending.returned (Value.bool x_1) ∧
 bsp x
 (bsp x_1 (R (Ending.returned (Value.int IntKind.i64 0)) w')
 (R (Ending.returned (Value.int IntKind.i64 (-1))) w'))
 (bsp x_1 (R (Ending.returned (Value.int IntKind.i64 1)) w')
 (bsp (decide (a < b)) (R (Ending.returned (Value.int IntKind.i64 (-1))) w')
 (bsp (decide (a > b)) (R (Ending.returned (Value.int IntKind.i64 1)) w')
 (R (Ending.returned (Value.int IntKind.i64 0)) w'))))
theorem vc_cmpB2 (a : Int) (b : Int) (w : World) (R : Ending → World → Prop) (h : VC_cmpB2 a b w R) : Calls Tryz.prog 67 ([Value.int
    IntKind.u8 a,
  Value.int IntKind.u8 b] : List Value).toArray w R := by
  have e : execR { P := Tryz.prog, loops := [], pur := pur0, tails := [], joins := [], boxes := [] } Tryz.f67.results.toList R (Tryz.f67.body.getD .skip) (initF [Value.int
    IntKind.u8 a,
  Value.int IntKind.u8
    b] (Tryz.f67.ntmps - ([Value.int IntKind.u8 a,
  Value.int IntKind.u8 b] : List Value).length)) w = VC_cmpB2 a b w R := by kernel_rfl
  have hb : Tryz.f67.body = some (Tryz.f67.body.getD .skip) := by kernel_rfl
  exact calls_of_exec' (P := Tryz.prog) (fn := Tryz.f67) (c := Tryz.f67.body.getD .skip) (args := [Value.int IntKind.u8
    a,
  Value.int IntKind.u8 b]) (w := w) (R := R) pur0_ok Tryz.func67 hb e h

def VC_lastHeld (id : Nat → Int) (dt : Int) (ar : Int) (gp : Option Addr) (gn : Nat) (gc : Nat) (by_ : Int) (ct : Int) (hp : Option Addr) (hn : Nat) (hc : Nat) (wd : Bool) (w : World) (R : Ending → World → Prop) : Prop :=
 ∀ (n : Nat) (W : World),
 Loc w.heap.size
 [Blk.mk n 46
 (arrI IntKind.u8 id 32 0 ++ [Value.int IntKind.i64 dt, Value.int IntKind.i64 ar,
 Value.slice gp gn gc, Value.int IntKind.i64 by_, Value.int IntKind.i64 ct, Value.slice hp hn hc, Value.bool wd])
 2]
 w W →
 R (Ending.returned (Value.int IntKind.i64 (IntKind.i64.wrap (dt + 20160)))) W
theorem vc_lastHeld (id : Nat → Int) (dt : Int) (ar : Int) (gp : Option Addr) (gn : Nat) (gc : Nat) (by_ : Int) (ct : Int) (hp : Option Addr) (hn : Nat) (hc : Nat) (wd : Bool) (w : World) (R : Ending → World → Prop) (h : VC_lastHeld id dt ar gp gn gc by_ ct hp hn hc wd w R) : Calls Tryz.prog 40 ([Value.agg
    (arrI IntKind.u8 id 32 0 ++
        [Value.int IntKind.i64 dt, Value.int IntKind.i64 ar, Value.slice gp gn gc, Value.int IntKind.i64 by_,
          Value.int IntKind.i64 ct, Value.slice hp hn hc, Value.bool wd]).toArray] : List Value).toArray w R := by
  have e : execR2 { P := Tryz.prog, loops := [], pur := pur0, tails := [], joins := [], boxes := [] } Tryz.f40.results.toList R (Tryz.f40.body.getD .skip) (initF [Value.agg
    (arrI IntKind.u8 id 32 0 ++
        [Value.int IntKind.i64 dt, Value.int IntKind.i64 ar, Value.slice gp gn gc, Value.int IntKind.i64 by_,
          Value.int IntKind.i64 ct, Value.slice hp hn hc,
          Value.bool
            wd]).toArray] (Tryz.f40.ntmps - ([Value.agg
    (arrI IntKind.u8 id 32 0 ++
        [Value.int IntKind.i64 dt, Value.int IntKind.i64 ar, Value.slice gp gn gc, Value.int IntKind.i64 by_,
          Value.int IntKind.i64 ct, Value.slice hp hn hc,
          Value.bool
            wd]).toArray] : List Value).length)) w = VC_lastHeld id dt ar gp gn gc by_ ct hp hn hc wd w R := by kernel_rfl
  have hb : Tryz.f40.body = some (Tryz.f40.body.getD .skip) := by kernel_rfl
  exact calls_of_exec2' (P := Tryz.prog) (fn := Tryz.f40) (c := Tryz.f40.body.getD .skip) (args := [Value.agg
    (arrI IntKind.u8 id 32 0 ++
        [Value.int IntKind.i64 dt, Value.int IntKind.i64 ar, Value.slice gp gn gc, Value.int IntKind.i64 by_,
          Value.int IntKind.i64 ct, Value.slice hp hn hc,
          Value.bool wd]).toArray]) (w := w) (R := R) pur0_ok Tryz.func40 hb e h

def VC_aholds (id : Nat → Int) (dt : Int) (ar : Int) (gp : Option Addr) (gn : Nat) (gc : Nat) (by_ : Int) (ct : Int) (hp : Option Addr) (hn : Nat) (hc : Nat) (wd : Bool) (w : World) (R : Ending → World → Prop) : Prop :=
 ∀ (n : Nat),
 ∃ (p : Option Addr),
 ∃ (n_1 : Nat),
 ∃ (c : Nat),
 gimp (!ct != 0)
 (∀ (W : World),
 Loc w.heap.size
 [Blk.mk n 46
 (arrI IntKind.u8 id 32 0 ++ [Value.int IntKind.i64 dt,
 Value.int IntKind.i64 ar, Value.slice gp gn gc, Value.int IntKind.i64 by_, Value.int IntKind.i64 ct,
 Value.slice hp hn hc, Value.bool wd])
 2]
 w W →
 W.cell? (Addr.mk n (0 + 37) none) = some (Value.slice p n_1 c)) ∧
 ∀ (W : World),
 Loc w.heap.size
 [Blk.mk n 46
 (arrI IntKind.u8 id 32 0 ++ [Value.int IntKind.i64 dt,
 Value.int IntKind.i64 ar, Value.slice gp gn gc, Value.int IntKind.i64 by_, Value.int IntKind.i64 ct,
 Value.slice hp hn hc, Value.bool wd])
 2]
 w W →
 R (Ending.returned (Value.bool (ct != 0 || decide ((↑n_1 : Int) > 0)))) W
theorem vc_aholds (id : Nat → Int) (dt : Int) (ar : Int) (gp : Option Addr) (gn : Nat) (gc : Nat) (by_ : Int) (ct : Int) (hp : Option Addr) (hn : Nat) (hc : Nat) (wd : Bool) (w : World) (R : Ending → World → Prop) (h : VC_aholds id dt ar gp gn gc by_ ct hp hn hc wd w R) : Calls Tryz.prog 39 ([Value.agg
    (arrI IntKind.u8 id 32 0 ++
        [Value.int IntKind.i64 dt, Value.int IntKind.i64 ar, Value.slice gp gn gc, Value.int IntKind.i64 by_,
          Value.int IntKind.i64 ct, Value.slice hp hn hc, Value.bool wd]).toArray] : List Value).toArray w R := by
  have e : execR2 { P := Tryz.prog, loops := [], pur := pur0, tails := [], joins := [], boxes := [] } Tryz.f39.results.toList R (Tryz.f39.body.getD .skip) (initF [Value.agg
    (arrI IntKind.u8 id 32 0 ++
        [Value.int IntKind.i64 dt, Value.int IntKind.i64 ar, Value.slice gp gn gc, Value.int IntKind.i64 by_,
          Value.int IntKind.i64 ct, Value.slice hp hn hc,
          Value.bool
            wd]).toArray] (Tryz.f39.ntmps - ([Value.agg
    (arrI IntKind.u8 id 32 0 ++
        [Value.int IntKind.i64 dt, Value.int IntKind.i64 ar, Value.slice gp gn gc, Value.int IntKind.i64 by_,
          Value.int IntKind.i64 ct, Value.slice hp hn hc,
          Value.bool
            wd]).toArray] : List Value).length)) w = VC_aholds id dt ar gp gn gc by_ ct hp hn hc wd w R := by kernel_rfl
  have hb : Tryz.f39.body = some (Tryz.f39.body.getD .skip) := by kernel_rfl
  exact calls_of_exec2' (P := Tryz.prog) (fn := Tryz.f39) (c := Tryz.f39.body.getD .skip) (args := [Value.agg
    (arrI IntKind.u8 id 32 0 ++
        [Value.int IntKind.i64 dt, Value.int IntKind.i64 ar, Value.slice gp gn gc, Value.int IntKind.i64 by_,
          Value.int IntKind.i64 ct, Value.slice hp hn hc,
          Value.bool wd]).toArray]) (w := w) (R := R) pur0_ok Tryz.func39 hb e h

end Go.Proofs.YtmjanmffnblcoaaGreatDoor

/- Functions without an effect, chapter 42: isMinute, Permanent, cmp.Compare. No condition. -/
namespace Go.Proofs.YtmjanmffnblcoaaGreatDoor
open Go.RowKit

def minB (x : Int) : Bool := decide (0 ≤ x) && decide (x ≤ 105190559)
def permC (x : Int) : Bool := x == 3 || x == 4 || x == 5
def cI (a b : Int) : Int := if a < b then -1 else if b < a then 1 else 0
theorem isMinute_any (x : Int) (w : World) : Calls Tryz.prog 26 #[.int .i64 x] w fun e w' => e = .returned (.bool (minB x)) ∧ w' = w := vc_isMinute x w _ ⟨rfl, rfl⟩
theorem perm_any (x : Int) (w : World) : Calls Tryz.prog 38 #[.int .i64 x] w fun e w' => e = .returned (.bool (permC x)) ∧ w' = w := vc_perm x w _ ⟨rfl, rfl⟩
theorem nanI_any (x : Int) (w : World) : Calls Tryz.prog 66 #[.int .i64 x] w fun e w' => e = .returned (.bool false) ∧ w' = w := vc_nanI x w _ ⟨by simp, rfl⟩
theorem nanB_any (x : Int) (w : World) : Calls Tryz.prog 92 #[.int .u8 x] w fun e w' => e = .returned (.bool false) ∧ w' = w := vc_nanB x w _ ⟨by simp, rfl⟩
theorem cI_cases {a b : Int} {w : World} : bsp (decide (a < b)) ((Ending.returned (.int .i64 (-1)) = .returned (.int .i64 (cI a b))) ∧ w = w) (bsp (decide (a > b)) ((Ending.returned (.int .i64 1) = .returned (.int .i64 (cI a b))) ∧ w = w) ((Ending.returned (.int .i64 0) = .returned (.int .i64 (cI a b))) ∧ w = w)) := by
  unfold cI
  refine bsp_intro (fun h => ?_) (fun h => bsp_intro (fun h1 => ?_) (fun h1 => ?_))
  · rw [if_pos (by simpa using h)]; exact ⟨rfl, rfl⟩
  · rw [if_neg (by simpa using h), if_pos (by simpa using h1)]; exact ⟨rfl, rfl⟩
  · rw [if_neg (by simpa using h), if_neg (by simpa using h1)]; exact ⟨rfl, rfl⟩
theorem cmpI_any (a b : Int) (w : World) : Calls Tryz.prog 44 #[.int .i64 a, .int .i64 b] w fun e w' => e = .returned (.int .i64 (cI a b)) ∧ w' = w := by
  refine vc_cmpI2 a b w _ ⟨(nanI_any a w).mono fun e w' ⟨he, hw⟩ => ⟨_, he, ?_⟩⟩
  subst hw
  refine ⟨(nanI_any b w').mono fun e w'' ⟨he, hw⟩ => ⟨_, he, ?_⟩⟩
  subst hw
  exact cI_cases
theorem cmpB_any (a b : Int) (w : World) : Calls Tryz.prog 67 #[.int .u8 a, .int .u8 b] w fun e w' => e = .returned (.int .i64 (cI a b)) ∧ w' = w := by
  refine vc_cmpB2 a b w _ ⟨(nanB_any a w).mono fun e w' ⟨he, hw⟩ => ⟨_, he, ?_⟩⟩
  subst hw
  refine ⟨(nanB_any b w').mono fun e w'' ⟨he, hw⟩ => ⟨_, he, ?_⟩⟩
  subst hw
  exact cI_cases

def pur2 (f : FuncId) (args : List Value) : Option (Option Prop × Value) :=
  match f with
  | 26 => (match args with | [.int .i64 c] => some (none, .bool (minB c)) | _ => none)
  | 38 => (match args with | [.int .i64 c] => some (none, .bool (permC c)) | _ => none)
  | 44 => (match args with | [.int .i64 a, .int .i64 b] => some (none, .int .i64 (cI a b)) | _ => none)
  | 67 => (match args with | [.int .u8 a, .int .u8 b] => some (none, .int .i64 (cI a b)) | _ => none)
  | f => pur1 f args
theorem pur2_ok {l : List (Nat × List (Nat × Ck))} {t : List (Nat × Nat)} {j : List (Nat × List (Nat × Ck))} {b : List (Nat × Unit)} : PurOK { P := Tryz.prog, loops := l, pur := pur2, tails := t, joins := j, boxes := b } := fun f args p v h hx => by
  have key : ∀ (f : FuncId) (fn : Func), Tryz.prog.funcs[f]? = some fn → (fn.name == "runtime.NumGoroutine") = false → fn.body.isNone = false → ∃ fn, Tryz.prog.funcs[f]? = some fn ∧ (fn.name == "runtime.NumGoroutine") = false ∧ fn.body.isNone = false := fun f fn h1 h2 h3 => ⟨fn, h1, h2, h3⟩
  simp only [pur2] at h
  split at h
  · split at h
    · simp at h; obtain ⟨rfl, rfl⟩ := h; exact ⟨fun w => isMinute_any _ w, key _ _ Tryz.func26 (by decide) (by decide)⟩
    · simp at h
  · split at h
    · simp at h; obtain ⟨rfl, rfl⟩ := h; exact ⟨fun w => perm_any _ w, key _ _ Tryz.func38 (by decide) (by decide)⟩
    · simp at h
  · split at h
    · simp at h; obtain ⟨rfl, rfl⟩ := h; exact ⟨fun w => cmpI_any _ _ w, key _ _ Tryz.func44 (by decide) (by decide)⟩
    · simp at h
  · split at h
    · simp at h; obtain ⟨rfl, rfl⟩ := h; exact ⟨fun w => cmpB_any _ _ w, key _ _ Tryz.func67 (by decide) (by decide)⟩
    · simp at h
  · exact pur1_ok (l := l) (t := t) (j := j) (b := b) f args p v h hx

end Go.Proofs.YtmjanmffnblcoaaGreatDoor

/- The formulas of functions by the symbolic evaluator, and that each gives the call's contract. Written by a program (gen.py). No condition. -/
namespace Go.Proofs.YtmjanmffnblcoaaGreatDoor
set_option maxRecDepth 100000
set_option linter.unusedVariables false

def VC_skip (s : ByteArray) (k : Int) (f : FuncId) (fa : Array Value) (fb : Array Value) (w : World) (R : Ending → World → Prop) : Prop :=
 ∃ (I : List Value → World → Prop),
 ∃ (m : List Value → World → Nat),
 I [Value.int IntKind.i64 k] w ∧
 ∀ (x : Int) (w' : World),
 I [Value.int IntKind.i64 x] w' →
 gimp (decide (x < (↑s.size : Int))) (0 ≤ x ∧ x < (↑s.size : Int)) ∧
 bsp (decide (x < (↑s.size : Int)))
 (∃ (f_1 : Nat),
 ∃ (a : Array Value),
 ∃ (b : Array Value),
 Value.func (Fn.func f) fa fb = Value.func (Fn.func f_1) a b ∧
 okFn Tryz.prog f_1 = true ∧
 CallsS Tryz.prog f_1 (appA a [Value.int IntKind.u8 (at8 s x.toNat)] b) w' fun (e : Ending) (w'_1 : World) =>
 ∃ (x_1 : Bool),
 e = Ending.returned (Value.bool x_1) ∧
 KeptL [] w' w'_1 ∧
 bsp (true && x_1)
 (I [Value.int IntKind.i64 (IntKind.i64.wrap (x + 1))] w'_1 ∧
 m [Value.int IntKind.i64 (IntKind.i64.wrap (x + 1))] w'_1 < m [Value.int IntKind.i64 x] w')
 (R (Ending.returned (Value.int IntKind.i64 x)) w'_1))
 (KeptL [] w' w' ∧ R (Ending.returned (Value.int IntKind.i64 x)) w')
theorem vc_skip (s : ByteArray) (k : Int) (f : FuncId) (fa : Array Value) (fb : Array Value) (w : World) (R : Ending → World → Prop) (h : VC_skip s k f fa fb w R) : Calls Tryz.prog 56 ([Value.string
    s,
  Value.int IntKind.i64 k, Value.func (Fn.func f) fa fb] : List Value).toArray w R := by
  have e : execR2 { P := Tryz.prog, loops := [(1, [(1, Ck.int IntKind.i64)])], pur := pur2, tails := [], joins := [], boxes := [] } Tryz.f56.results.toList R (Tryz.f56.body.getD .skip) (initF [Value.string
    s,
  Value.int IntKind.i64 k,
  Value.func (Fn.func f) fa
    fb] (Tryz.f56.ntmps - ([Value.string s, Value.int IntKind.i64 k,
  Value.func (Fn.func f) fa fb] : List Value).length)) w = VC_skip s k f fa fb w R := by kernel_rfl
  have hb : Tryz.f56.body = some (Tryz.f56.body.getD .skip) := by kernel_rfl
  exact calls_of_exec2' (P := Tryz.prog) (fn := Tryz.f56) (c := Tryz.f56.body.getD .skip) (args := [Value.string s,
  Value.int IntKind.i64 k, Value.func (Fn.func f) fa fb]) (w := w) (R := R) pur2_ok Tryz.func56 hb e h

def VC_number (s : ByteArray) (m : Int) (w : World) (R : Ending → World → Prop) : Prop :=
 bsp (!s.toList == [])
 (CallsS Tryz.prog 56 #[Value.string s, Value.int IntKind.i64 0, Value.func (Fn.func 57) #[] #[]] w
 fun (e : Ending) (w' : World) =>
 ∃ (x : Int),
 e = Ending.returned (Value.int IntKind.i64 x) ∧
 KeptL [] w w' ∧
 gimp (!(false || decide (x < (↑s.size : Int))) && decide ((↑s.size : Int) > 1)) ((0 : Int) ≤ 0 ∧ 0 < (↑s.size : Int)) ∧
 bsp (false || decide (x < (↑s.size : Int)) || decide ((↑s.size : Int) > 1) && at8 s 0 == 48)
 (R (Ending.returned (Value.tuple #[Value.int IntKind.i64 0, Value.int IntKind.i64 3])) w')
 (bsp (decide (m < 0)) (R (Ending.returned (Value.tuple #[Value.int IntKind.i64 0, Value.int IntKind.i64 2])) w')
 (∃ (I : List Value → World → Prop),
 ∃ (m_1 : List Value → World → Nat),
 I [Value.int IntKind.i64 0, Value.int IntKind.i64 0] w' ∧
 ∀ (x x_1 : Int) (w' : World),
 I [Value.int IntKind.i64 x, Value.int IntKind.i64 x_1] w' →
 bsp (decide (x < (↑s.size : Int)))
 ((0 ≤ x ∧ x < (↑s.size : Int)) ∧
 bsp
 (decide (x_1 > IntKind.i64.wrap (m.tdiv 10)) ||
 x_1 == IntKind.i64.wrap (m.tdiv 10) &&
 decide (IntKind.i64.wrap (IntKind.u8.wrap (at8 s x.toNat - 48)) > m.tmod 10))
 (R (Ending.returned (Value.tuple #[Value.int IntKind.i64 0, Value.int IntKind.i64 2])) w')
 (I
 [Value.int IntKind.i64 (IntKind.i64.wrap (x + 1)),
 Value.int IntKind.i64
 (IntKind.i64.wrap
 (IntKind.i64.wrap (10 * x_1) + IntKind.i64.wrap (IntKind.u8.wrap (at8 s x.toNat - 48))))]
 w' ∧
 m_1
 [Value.int IntKind.i64 (IntKind.i64.wrap (x + 1)),
 Value.int IntKind.i64
 (IntKind.i64.wrap
 (IntKind.i64.wrap (10 * x_1) + IntKind.i64.wrap (IntKind.u8.wrap (at8 s x.toNat - 48))))]
 w' <
 m_1 [Value.int IntKind.i64 x, Value.int IntKind.i64 x_1] w'))
 (R (Ending.returned (Value.tuple #[Value.int IntKind.i64 x_1, Value.int IntKind.i64 0])) w'))))
 (KeptL [] w w ∧ True ∧ R (Ending.returned (Value.tuple #[Value.int IntKind.i64 0, Value.int IntKind.i64 3])) w)
theorem vc_number (s : ByteArray) (m : Int) (w : World) (R : Ending → World → Prop) (h : VC_number s m w R) : Calls Tryz.prog 33 ([Value.string
    s,
  Value.int IntKind.i64 m] : List Value).toArray w R := by
  have e : execR2 { P := Tryz.prog, loops := [(7, [(32, Ck.int IntKind.i64), (6, Ck.int IntKind.i64)])], pur := pur2, tails := [], joins := [], boxes := [] } Tryz.f33.results.toList R (Tryz.f33.body.getD .skip) (initF [Value.string
    s,
  Value.int IntKind.i64
    m] (Tryz.f33.ntmps - ([Value.string s,
  Value.int IntKind.i64 m] : List Value).length)) w = VC_number s m w R := by kernel_rfl
  have hb : Tryz.f33.body = some (Tryz.f33.body.getD .skip) := by kernel_rfl
  exact calls_of_exec2' (P := Tryz.prog) (fn := Tryz.f33) (c := Tryz.f33.body.getD .skip) (args := [Value.string s,
  Value.int IntKind.i64 m]) (w := w) (R := R) pur2_ok Tryz.func33 hb e h

def VC_eparseRule (s : ByteArray) (w : World) (R : Ending → World → Prop) : Prop :=
 ∀ (n : Nat) (W : World),
 Loc w.heap.size [Blk.mk n 40 [Value.string (ByteArray.mk #[]), Value.int IntKind.i64 0, Value.int IntKind.i64 0] 2] w
 W →
 CallsS Tryz.prog 32 #[Value.string s, Value.string (ByteArray.mk #[32])] W fun (e : Ending) (w' : World) =>
 ∃ (p : Option Addr),
 ∃ (n_1 : Nat),
 ∃ (c : Nat),
 e = Ending.returned (Value.slice p n_1 c) ∧
 KeptL [n] W w' ∧
 bsp ((↑n_1 : Int) != 3)
 (∀ (W : World),
 Loc w.heap.size
 [Blk.mk n 40 [Value.string (ByteArray.mk #[]), Value.int IntKind.i64 0, Value.int IntKind.i64 0] (wrM 0)] w'
 W →
 R
 (Ending.returned
 (Value.tuple
 #[Value.agg #[Value.string (ByteArray.mk #[]), Value.int IntKind.i64 0, Value.int IntKind.i64 0],
 Value.int IntKind.i64 3]))
 W)
 (nn true p fun (b o : Nat) =>
 ((0 : Int) ≤ 1 ∧ 1 < (↑n_1 : Int)) ∧
 ∃ (x : ByteArray),
 w'.cell? (Addr.mk b (o + 1) none) = some (Value.string x) ∧
 CallsS Tryz.prog 33 #[Value.string x, Value.int IntKind.i64 999999] w' fun (e : Ending) (w'_1 : World) =>
 ∃ (x : Int),
 ∃ (x_1 : Int),
 e = Ending.returned (Value.tuple #[Value.int IntKind.i64 x, Value.int IntKind.i64 x_1]) ∧
 KeptL [n] w' w'_1 ∧
 bsp (x_1 != 0)
 (∀ (W : World),
 Loc w.heap.size
 [Blk.mk n 40 [Value.string (ByteArray.mk #[]), Value.int IntKind.i64 0, Value.int IntKind.i64 0]
 (wrM 0)]
 w'_1 W →
 R
 (Ending.returned
 (Value.tuple
 #[Value.agg
 #[Value.string (ByteArray.mk #[]), Value.int IntKind.i64 0, Value.int IntKind.i64 0],
 Value.int IntKind.i64 3]))
 W)
 (nn true p fun (b o : Nat) =>
 ((0 : Int) ≤ 2 ∧ 2 < (↑n_1 : Int)) ∧
 ∃ (x_2 : ByteArray),
 w'_1.cell? (Addr.mk b (o + 2) none) = some (Value.string x_2) ∧
 CallsS Tryz.prog 33 #[Value.string x_2, Value.int IntKind.i64 999999] w'_1
 fun (e : Ending) (w' : World) =>
 ∃ (x_3 : Int),
 ∃ (x_4 : Int),
 e = Ending.returned (Value.tuple #[Value.int IntKind.i64 x_3, Value.int IntKind.i64 x_4]) ∧
 KeptL [n] w'_1 w' ∧
 bsp (x_4 != 0)
 (∀ (W : World),
 Loc w.heap.size
 [Blk.mk n 40
 [Value.string (ByteArray.mk #[]), Value.int IntKind.i64 0, Value.int IntKind.i64 0]
 (wrM 0)]
 w' W →
 R
 (Ending.returned
 (Value.tuple
 #[Value.agg
 #[Value.string (ByteArray.mk #[]), Value.int IntKind.i64 0,
 Value.int IntKind.i64 0],
 Value.int IntKind.i64 3]))
 W)
 (nn true p fun (b o : Nat) =>
 ((0 : Int) ≤ 0 ∧ 0 < (↑n_1 : Int)) ∧
 ∃ (x_5 : ByteArray),
 w'.cell? (Addr.mk b o none) = some (Value.string x_5) ∧
 ∀ (n_2 : Nat) (W : World),
 Loc w.heap.size
 [Blk.mk n_2 40
 [Value.string x_5, Value.int IntKind.i64 x, Value.int IntKind.i64 x_3] (wrM 2),
 Blk.mk n 40
 [Value.string (ByteArray.mk #[]), Value.int IntKind.i64 0,
 Value.int IntKind.i64 0]
 0]
 w' W →
 ∃ (S : World → Prop),
 S W ∧
 ∃ (x : ByteArray),
 ∃ (x_6 : Int),
 ∃ (x_7 : Int),
 (∀ (w' : World),
 S w' →
 AtL w' n_2 0
 [Value.string x, Value.int IntKind.i64 x_6, Value.int IntKind.i64 x_7]) ∧
 ∃ (x_8 : ByteArray),
 ∃ (x_9 : Int),
 ∃ (x_10 : Int),
 (∀ (w' : World),
 S w' →
 AtL w' n_2 0
 [Value.string x_8, Value.int IntKind.i64 x_9,
 Value.int IntKind.i64 x_10]) ∧
 ∀ (n_3 : Nat) (w1 : World),
 NewB W
 (Obj.cells
 #[Value.string x_8, Value.int IntKind.i64 x_9,
 Value.int IntKind.i64 x_10]
 40)
 n_3 w1 →
 S w1 ∧
 CallsS Tryz.prog 19 #[Value.slice (some (Addr.mk n_3 0 none)) 1 1] w1
 fun (e : Ending) (w' : World) =>
 ∃ (x_11 : Int),
 e = Ending.returned (Value.int IntKind.i64 x_11) ∧
 S w' ∧
 WrL w' n 0 3 ∧
 ∀ (w1 : World),
 PutB w' n 0
 [Value.string x, Value.int IntKind.i64 x_6,
 Value.int IntKind.i64 x_7]
 w1 →
 KeptL [n_2] W w1 ∧
 ∃ (x : ByteArray),
 ∃ (x_12 : Int),
 ∃ (x_13 : Int),
 AtL w1 n 0
 [Value.string x, Value.int IntKind.i64 x_12,
 Value.int IntKind.i64 x_13] ∧
 R
 (Ending.returned
 (Value.tuple
 #[Value.agg
 #[Value.string x, Value.int IntKind.i64 x_12,
 Value.int IntKind.i64 x_13],
 Value.int IntKind.i64 x_11]))
 w1)))
theorem vc_eparseRule (s : ByteArray) (w : World) (R : Ending → World → Prop) (h : VC_eparseRule s w R) : Calls Tryz.prog 16 ([Value.string
    s] : List Value).toArray w R := by
  have e : execR2 { P := Tryz.prog, loops := [], pur := pur2, tails := [(11, 2)], joins := [], boxes := [] } Tryz.f16.results.toList R (Tryz.f16.body.getD .skip) (initF [Value.string
    s] (Tryz.f16.ntmps - ([Value.string s] : List Value).length)) w = VC_eparseRule s w R := by kernel_rfl
  have hb : Tryz.f16.body = some (Tryz.f16.body.getD .skip) := by kernel_rfl
  exact calls_of_exec2' (P := Tryz.prog) (fn := Tryz.f16) (c := Tryz.f16.body.getD .skip) (args := [Value.string
    s]) (w := w) (R := R) pur2_ok Tryz.func16 hb e h

def VC_eparse (s : ByteArray) (w : World) (R : Ending → World → Prop) : Prop :=
 ∃ (I : List Value → World → Prop),
 ∃ (m : List Value → World → Nat),
 I [Value.int IntKind.i64 1, Value.slice none 0 0, Value.string s] w ∧
 ∀ (x : Int) (p : Option Addr) (n c : Nat) (x_1 : ByteArray) (w' : World),
 I [Value.int IntKind.i64 x, Value.slice p n c, Value.string x_1] w' →
 bsp (!x_1.toList == [])
 (CallsS Tryz.prog 15 #[Value.string x_1, Value.string (ByteArray.mk #[10])] w' fun (e : Ending) (w'_1 : World) =>
 ∃ (x_2 : ByteArray),
 ∃ (x_3 : ByteArray),
 ∃ (x_4 : Bool),
 e = Ending.returned (Value.tuple #[Value.string x_2, Value.string x_3, Value.bool x_4]) ∧
 KeptL [] w' w'_1 ∧
 bsp (!x_4)
 (R
 (Ending.returned (Value.tuple #[Value.slice none 0 0, Value.int IntKind.i64 x, Value.int IntKind.i64 4]))
 w'_1)
 (bsp (decide ((↑n : Int) ≥ 64))
 (R
 (Ending.returned (Value.tuple #[Value.slice none 0 0, Value.int IntKind.i64 x, Value.int IntKind.i64 9]))
 w'_1)
 (CallsS Tryz.prog 16 #[Value.string x_2] w'_1 fun (e : Ending) (w'_2 : World) =>
 ∃ (x_5 : ByteArray),
 ∃ (x_6 : Int),
 ∃ (x_7 : Int),
 ∃ (x_8 : Int),
 e =
 Ending.returned
 (Value.tuple
 #[Value.agg #[Value.string x_5, Value.int IntKind.i64 x_6, Value.int IntKind.i64 x_7],
 Value.int IntKind.i64 x_8]) ∧
 KeptL [] w'_1 w'_2 ∧
 ∀ (n_1 : Nat),
 bsp (x_8 != 0)
 (∀ (W : World),
 Loc w.heap.size
 [Blk.mk n_1 40 [Value.string x_5, Value.int IntKind.i64 x_6, Value.int IntKind.i64 x_7]
 (wrM 2)]
 w'_2 W →
 R
 (Ending.returned
 (Value.tuple #[Value.slice none 0 0, Value.int IntKind.i64 x, Value.int IntKind.i64 x_8]))
 W)
 (∀ (n_2 : Nat) (W : World),
 Loc w.heap.size
 [Blk.mk n_2 40 [Value.string x_5, Value.int IntKind.i64 x_6, Value.int IntKind.i64 x_7] 2,
 Blk.mk n_1 40 [Value.string x_5, Value.int IntKind.i64 x_6, Value.int IntKind.i64 x_7]
 (wrM 2)]
 w'_2 W →
 ∃ (base : Nat),
 ∃ (xs : List Value),
 W.ownsRow base 40 3 (Value.slice p n c) n xs ∧
 n + 1 ≤ 9223372036854775807 ∧
 (n + 1) * 32 ≤ 140737488355328 ∧
 base ≤ W.heap.size ∧
 ∀ (p' : Option Addr) (c' : Nat) (w'_3 : World),
 w'_3.ownsRow base 40 3 (Value.slice p' (n + 1) c') (n + 1)
 (xs ++ [Value.string x_5, Value.int IntKind.i64 x_6, Value.int IntKind.i64 x_7]) →
 W.grownBy w'_3 (Value.slice p n c).ownBlock →
 (n + 1 ≤ c → p' = p ∧ c' = c) →
 KeptL [n_1] W w'_3 ∧
 I
 [Value.int IntKind.i64 (IntKind.i64.wrap (x + 1)), Value.slice p' (n + 1) c',
 Value.string x_3]
 w'_3 ∧
 m
 [Value.int IntKind.i64 (IntKind.i64.wrap (x + 1)), Value.slice p' (n + 1) c',
 Value.string x_3]
 w'_3 <
 m [Value.int IntKind.i64 x, Value.slice p n c, Value.string x_1] w'))))
 (R (Ending.returned (Value.tuple #[Value.slice p n c, Value.int IntKind.i64 0, Value.int IntKind.i64 0])) w')
theorem vc_eparse (s : ByteArray) (w : World) (R : Ending → World → Prop) (h : VC_eparse s w R) : Calls Tryz.prog 6 ([Value.string
    s] : List Value).toArray w R := by
  have e : execR2 { P := Tryz.prog, loops := [(2, [(3, Ck.int IntKind.i64), (2, Ck.slice), (0, Ck.str)])], pur := pur2, tails := [], joins := [], boxes := [] } Tryz.f6.results.toList R (Tryz.f6.body.getD .skip) (initF [Value.string
    s] (Tryz.f6.ntmps - ([Value.string s] : List Value).length)) w = VC_eparse s w R := by kernel_rfl
  have hb : Tryz.f6.body = some (Tryz.f6.body.getD .skip) := by kernel_rfl
  exact calls_of_exec2' (P := Tryz.prog) (fn := Tryz.f6) (c := Tryz.f6.body.getD .skip) (args := [Value.string
    s]) (w := w) (R := R) pur2_ok Tryz.func6 hb e h

def VC_eprint (p : Option Addr) (n : Nat) (c : Nat) (w : World) (R : Ending → World → Prop) : Prop :=
 CallsS Tryz.prog 19 #[Value.slice p n c] w fun (e : Ending) (w' : World) =>
 ∃ (x : Int),
 e = Ending.returned (Value.int IntKind.i64 x) ∧
 KeptL [] w w' ∧
 bsp (x != 0) (R (Ending.returned (Value.tuple #[Value.string (ByteArray.mk #[]), Value.int IntKind.i64 x])) w')
 (∀ (n_1 : Nat) (W : World),
 Loc w.heap.size [Blk.mk n_1 64 [Value.pointer none, Value.slice none 0 0] 2] w' W →
 ∃ (I : List Value → World → Prop),
 ∃ (m : List Value → World → Nat),
 I [Value.int IntKind.i64 0] W ∧
 ∀ (x : Int) (w' : World),
 I [Value.int IntKind.i64 x] w' →
 bsp (decide (x < (↑n : Int)))
 (nn true p fun (b o : Nat) =>
 (0 ≤ x ∧ x < (↑n : Int)) ∧
 ∃ (x_1 : ByteArray),
 ∃ (x_2 : Int),
 ∃ (x_3 : Int),
 AtL w' b (o + x.toNat * 3) [Value.string x_1, Value.int IntKind.i64 x_2, Value.int IntKind.i64 x_3] ∧
 ∀ (n : Nat) (W : World),
 Loc w.heap.size
 [Blk.mk n 40 [Value.string x_1, Value.int IntKind.i64 x_2, Value.int IntKind.i64 x_3] (wrM 2)] w'
 W →
 ∃ (S : World → Prop),
 S W ∧
 ∃ (x_4 : ByteArray),
 (∀ (w' : World), S w' → w'.cell? (Addr.mk n 0 none) = some (Value.string x_4)) ∧
 (9223372036854775807 - (↑(x_4.size + (ByteArray.mk #[32]).size) : Int)).NonNeg ∧
 ∃ (x_5 : Int),
 (∀ (w' : World),
 S w' → w'.cell? (Addr.mk n (0 + 1) none) = some (Value.int IntKind.i64 x_5)) ∧
 ∃ (x_6 : Int),
 (∀ (w' : World),
 S w' → w'.cell? (Addr.mk n (0 + 2) none) = some (Value.int IntKind.i64 x_6)) ∧
 CallsS Tryz.prog 21 #[Value.int IntKind.i64 x_5] W fun (e : Ending) (w'_1 : World) =>
 ∃ (x_7 : ByteArray),
 e = Ending.returned (Value.string x_7) ∧
 S w'_1 ∧
 (9223372036854775807 -
 (↑((x_4 ++ ByteArray.mk #[32]).size + x_7.size) : Int)).NonNeg ∧
 (9223372036854775807 -
 (↑((x_4 ++ ByteArray.mk #[32] ++ x_7).size + (ByteArray.mk #[32]).size) :
 Int)).NonNeg ∧
 CallsS Tryz.prog 21 #[Value.int IntKind.i64 x_6] w'_1
 fun (e : Ending) (w'_2 : World) =>
 ∃ (x_8 : ByteArray),
 e = Ending.returned (Value.string x_8) ∧
 S w'_2 ∧
 (9223372036854775807 -
 (↑((x_4 ++ ByteArray.mk #[32] ++ x_7 ++ ByteArray.mk #[32]).size +
 x_8.size) :
 Int)).NonNeg ∧
 (9223372036854775807 -
 (↑((x_4 ++ ByteArray.mk #[32] ++ x_7 ++ ByteArray.mk #[32] ++ x_8).size +
 (ByteArray.mk #[10]).size) :
 Int)).NonNeg ∧
 CallsS Tryz.prog 20
 #[Value.pointer (some (Addr.mk n_1 0 none)),
 Value.string
 (x_4 ++ ByteArray.mk #[32] ++ x_7 ++ ByteArray.mk #[32] ++ x_8 ++
 ByteArray.mk #[10])]
 w'_2 fun (e : Ending) (w'_3 : World) =>
 ∃ (x_9 : Int),
 ∃ (x_10 : Value),
 e = Ending.returned (Value.tuple #[Value.int IntKind.i64 x_9, x_10]) ∧
 KeptL [n] W w'_3 ∧
 I [Value.int IntKind.i64 (IntKind.i64.wrap (x + 1))] w'_3 ∧
 m [Value.int IntKind.i64 (IntKind.i64.wrap (x + 1))] w'_3 <
 m [Value.int IntKind.i64 x] w')
 (CallsS Tryz.prog 22 #[Value.pointer (some (Addr.mk n_1 0 none))] w' fun (e : Ending) (w'_1 : World) =>
 ∃ (x : ByteArray),
 e = Ending.returned (Value.string x) ∧
 KeptL [] w' w'_1 ∧ R (Ending.returned (Value.tuple #[Value.string x, Value.int IntKind.i64 0])) w'_1))
theorem vc_eprint (p : Option Addr) (n : Nat) (c : Nat) (w : World) (R : Ending → World → Prop) (h : VC_eprint p n c w R) : Calls Tryz.prog 9 ([Value.slice
    p n c] : List Value).toArray w R := by
  have e : execR2 { P := Tryz.prog, loops := [(6, [(15, Ck.int IntKind.i64)])], pur := pur2, tails := [(8, 5)], joins := [], boxes := [] } Tryz.f9.results.toList R (Tryz.f9.body.getD .skip) (initF [Value.slice
    p n c] (Tryz.f9.ntmps - ([Value.slice p n c] : List Value).length)) w = VC_eprint p n c w R := by kernel_rfl
  have hb : Tryz.f9.body = some (Tryz.f9.body.getD .skip) := by kernel_rfl
  exact calls_of_exec2' (P := Tryz.prog) (fn := Tryz.f9) (c := Tryz.f9.body.getD .skip) (args := [Value.slice p n
    c]) (w := w) (R := R) pur2_ok Tryz.func9 hb e h

def VC_digits (x : Int) (w : World) (R : Ending → World → Prop) : Prop :=
 CallsS Tryz.prog 36 #[Value.int IntKind.i64 x] w fun (e : Ending) (w' : World) =>
 ∃ (x : ByteArray), e = Ending.returned (Value.string x) ∧ KeptL [] w w' ∧ R (Ending.returned (Value.string x)) w'
theorem vc_digits (x : Int) (w : World) (R : Ending → World → Prop) (h : VC_digits x w R) : Calls Tryz.prog 21 ([Value.int
    IntKind.i64 x] : List Value).toArray w R := by
  have e : execR2 { P := Tryz.prog, loops := [], pur := pur2, tails := [], joins := [], boxes := [] } Tryz.f21.results.toList R (Tryz.f21.body.getD .skip) (initF [Value.int
    IntKind.i64
    x] (Tryz.f21.ntmps - ([Value.int IntKind.i64 x] : List Value).length)) w = VC_digits x w R := by kernel_rfl
  have hb : Tryz.f21.body = some (Tryz.f21.body.getD .skip) := by kernel_rfl
  exact calls_of_exec2' (P := Tryz.prog) (fn := Tryz.f21) (c := Tryz.f21.body.getD .skip) (args := [Value.int
    IntKind.i64 x]) (w := w) (R := R) pur2_ok Tryz.func21 hb e h

end Go.Proofs.YtmjanmffnblcoaaGreatDoor

/- Chapter 42: the contracts of ascii.skip and Number, of parseRule and Parse. Texts have at most 2^30 bytes; the library's variable MaxLen holds a number. -/
namespace Go.Proofs.YtmjanmffnblcoaaGreatDoor
open Go.RowKit

/-- The library's variable MaxLen holds a number. -/
def GX (w : World) : Prop := ∃ m, w.cell? ⟨0, 0, none⟩ = some (.int .i64 m)
theorem GX.k0 {w w' : World} (h : GX w) (hk : K0 w w') : GX w' := by
  obtain ⟨m, h⟩ := h; exact ⟨m, hk.cell' h (fun h => h)⟩

theorem nn_is {g : Bool} {p : Option Addr} {b o : Nat} {K : Nat → Nat → Prop} (hp : p = some ⟨b, o, none⟩) (h : K b o) : nn g p K := by subst hp; exact h
theorem skip_any (s : ByteArray) (k : Nat) (f : FuncId) (fa fb : Array Value) (g : Int → Bool) (w : World) (hk : k ≤ s.size) (hs : s.size ≤ 4294967296) (hok : okFn Tryz.prog f = true)
    (hF : ∀ c, 0 ≤ c ∧ c ≤ 255 → ∀ w1, K0 w w1 → Calls Tryz.prog f (appA fa [.int .u8 c] fb) w1 fun e w2 => e = .returned (.bool (g c)) ∧ K0 w1 w2) :
    Calls Tryz.prog 56 #[.string s, .int .i64 k, .func (.func f) fa fb] w fun e w' => (∃ i : Nat, e = .returned (.int .i64 i) ∧ k ≤ i ∧ i ≤ s.size ∧ (∀ j, k ≤ j → j < i → g (at8 s j) = true) ∧ (i < s.size → g (at8 s i) = false)) ∧ K0 w w' := by
  refine vc_skip s k f fa fb w _ ?_
  refine ⟨fun vs w' => ∃ i : Nat, vs = [.int .i64 (i : Int)] ∧ k ≤ i ∧ i ≤ s.size ∧ (∀ j, k ≤ j → j < i → g (at8 s j) = true) ∧ K0 w w',
    fun vs _ => (match vs with | .int _ x :: _ => s.size - x.toNat | _ => 0), ⟨k, rfl, by omega, hk, (fun j h1 h2 => by omega), .refl _ _⟩, ?_⟩
  rintro x w1 ⟨i, hv, h1, hi, hall, k1⟩
  simp only [List.cons.injEq, Value.int.injEq, true_and, and_true] at hv
  subst hv
  refine ⟨gimp_intro fun h => ⟨by omega, by simpa using h⟩, bsp_intro (fun hlt => ?_) (fun hge => ?_)⟩
  · have hlt : i < s.size := by simp at hlt; omega
    rw [Int.toNat_natCast]
    refine ⟨f, fa, fb, rfl, hok, ⟨(hF (at8 s i) (at8_bd s i) w1 k1).mono fun e w2 ⟨he, k2⟩ => ⟨_, he, .of_k0 k2, bsp_intro (fun hg => ?_) (fun hg => ?_)⟩⟩⟩
    · have hg : g (at8 s i) = true := by simpa using hg
      refine ⟨⟨i + 1, by rw [inc64 (by omega)], by omega, hlt, fun j hj hj2 => ?_, k1.trans k2⟩, by rw [inc64 (by omega)]; simp only [Int.toNat_natCast]; omega⟩
      by_cases e : j = i
      · rw [e]; exact hg
      · exact hall j hj (by omega)
    · have hg : g (at8 s i) = false := by simpa using hg
      exact ⟨⟨i, rfl, h1, hi, hall, fun _ => hg⟩, k1.trans k2⟩
  · exact ⟨.refl _ _, ⟨i, rfl, h1, hi, hall, fun h => by simp at hge; omega⟩, k1⟩

theorem dig_i (c : Int) : digitB c = true ↔ 48 ≤ c ∧ c ≤ 57 := by unfold digitB; simp
theorem dig_wr {c : Int} (h : 48 ≤ c ∧ c ≤ 57) : IntKind.i64.wrap (IntKind.u8.wrap (c - 48)) = c - 48 := by
  rw [IntWalk.u8_in _ ⟨by omega, by omega⟩, wr64 (by omega) (by omega)]
theorem number_any (s : ByteArray) (m : Int) (w : World) (hs : s.size ≤ 4294967296) (hm : m ≤ 4611686018427387904) :
    Calls Tryz.prog 33 #[.string s, .int .i64 m] w fun e w' => e = .returned (.tuple #[.int .i64 (numR s m).1, .int .i64 (numR s m).2]) ∧ K0 w w' := by
  refine vc_number s m w _ ?_
  unfold VC_number
  rw [toList_nil]
  refine bsp_intro (fun h0 => ?_) (fun h0 => ?_)
  · have h0 : ¬ s.size = 0 := by simpa using h0
    have h0 : 0 < s.size := by omega
    refine ⟨(skip_any s 0 57 #[] #[] digitB w (by omega) hs (by kernel_rfl) (fun c _ w1 _ => (isDigit_any c w1).mono fun e w2 ⟨he, hw⟩ => ⟨he, by rw [hw]; exact .refl _ _⟩)).mono fun e w1 ⟨⟨i, he, _, hi, hall, hst⟩, k1⟩ => ⟨_, he, .of_k0 k1, gimp_intro fun _ => ⟨by omega, by omega⟩, bsp_intro (fun hb => ?_) (fun hb => ?_)⟩⟩
    · have hn : ¬ NumOK s := by
        rintro ⟨_, hd, hz⟩
        simp only [Bool.false_or, Bool.or_eq_true, Bool.and_eq_true, decide_eq_true_eq, beq_iff_eq] at hb
        rcases hb with hb | ⟨h1, h2⟩
        · have hlt : i < s.size := by omega
          have := (dig_i _).2 (hd i hlt)
          rw [hst hlt] at this
          cases this
        · exact hz (by omega) h2
      exact ⟨by unfold numR; rw [if_neg hn], k1⟩
    have hb' : ¬ ((i : Int) < (s.size : Int)) ∧ ¬ ((s.size : Int) > 1 ∧ at8 s 0 = 48) := by
      simp only [Bool.false_or, Bool.or_eq_false_iff, Bool.and_eq_false_iff, decide_eq_false_iff_not, beq_eq_false_iff_ne] at hb
      exact ⟨hb.1, fun h => hb.2.elim (fun h2 => h2 h.1) (fun h2 => h2 h.2)⟩
    have hd : ∀ j, j < s.size → 48 ≤ at8 s j ∧ at8 s j ≤ 57 := fun j hj => (dig_i _).1 (hall j (by omega) (by omega))
    have hok : NumOK s := ⟨h0, hd, fun h1 h2 => hb'.2 ⟨by omega, h2⟩⟩
    refine bsp_intro (fun hneg => ?_) (fun hneg => ?_)
    · exact ⟨by unfold numR; rw [if_pos hok, if_pos (by simpa using hneg)], k1⟩
    have hneg : ¬ m < 0 := by simpa using hneg
    have eR : numR s m = if nvF s s.size ≤ m then (nvF s s.size, 0) else (0, 2) := by unfold numR; rw [if_pos hok, if_neg hneg]
    rw [eR]
    refine ⟨fun vs w' => ∃ k : Nat, vs = [.int .i64 (k : Int), .int .i64 (nvF s k)] ∧ k ≤ s.size ∧ nvF s k ≤ m ∧ K0 w w',
      fun vs _ => (match vs with | .int _ x :: _ => s.size - x.toNat | _ => 0), ⟨0, rfl, by omega, by simp [nvF]; omega, k1⟩, ?_⟩
    rintro x y w2 ⟨k, hv, hk, hle, k2⟩
    simp only [List.cons.injEq, Value.int.injEq, true_and, and_true] at hv
    obtain ⟨rfl, rfl⟩ := hv
    have hnn := nvF_nonneg hd k hk
    refine bsp_intro (fun hlt => ?_) (fun hge => ?_)
    · have hlt : k < s.size := by simp at hlt; omega
      have hdk := hd k hlt
      rw [Int.toNat_natCast, dig_wr hdk, Int.tdiv_eq_ediv_of_nonneg (by omega), Int.tmod_eq_emod_of_nonneg (by omega), wr64 (x := m / 10) (by omega) (by omega)]
      have e1 : nvF s (k + 1) = 10 * nvF s k + (at8 s k - 48) := rfl
      refine ⟨⟨by omega, by omega⟩, bsp_intro (fun hg => ?_) (fun hg => ?_)⟩
      · have hgt : m < nvF s (k + 1) := by
          simp only [Bool.or_eq_true, Bool.and_eq_true, decide_eq_true_eq, beq_iff_eq] at hg
          omega
        have hmo := nvF_mono hd (k + 1) (s.size - (k + 1)) (by omega)
        rw [show k + 1 + (s.size - (k + 1)) = s.size by omega] at hmo
        exact ⟨by rw [if_neg (by omega)], k2⟩
      · have hgt : nvF s (k + 1) ≤ m := by
          simp only [Bool.or_eq_false_iff, Bool.and_eq_false_iff, decide_eq_false_iff_not, beq_eq_false_iff_ne] at hg
          omega
        rw [inc64 (by omega), wr64 (x := 10 * nvF s k) (by omega) (by omega), wr64 (x := 10 * nvF s k + (at8 s k - 48)) (by omega) (by omega)]
        exact ⟨⟨k + 1, rfl, hlt, hgt, k2⟩, by simp only [Int.toNat_natCast]; omega⟩
    · have hk' : k = s.size := by simp at hge; omega
      subst hk'
      exact ⟨by rw [if_pos hle], k2⟩
  · have h0 : s.size = 0 := by simpa using h0
    exact ⟨.refl _ _, trivial, by unfold numR; rw [if_neg (fun h => by have := h.1; omega)], .refl _ _⟩

theorem partsC_le {c : UInt8} {x : ByteArray} : ∀ (k : Nat) (s : ByteArray), x ∈ Lib.splitB ⟨#[c]⟩ 0 k s → x.size ≤ s.size
  | 0, s, h => by simp [Lib.splitB] at h; subst h; exact Nat.le_refl _
  | k + 1, s, h => by
    unfold Lib.splitB at h
    split at h
    · simp at h; subst h; exact Nat.le_refl _
    · rcases List.mem_cons.1 h with rfl | h
      · rw [ByteArray.size_extract]; omega
      · have := partsC_le k _ h
        rw [ByteArray.size_extract] at this
        omega
theorem eparseRule_any (s : ByteArray) (w : World) (hs : s.size ≤ 1073741824) (hG : GX w) :
    Calls Tryz.prog 16 #[.string s] w fun e w' => (∃ (r : Rl) (x : Int), e = .returned (.tuple #[.agg #[.string r.pat, .int .i64 r.lo, .int .i64 r.hi], .int .i64 x]) ∧ match line1 s with | .inl r' => r = r' ∧ x = 0 | .inr x' => x = x' ∧ x ≠ 0) ∧ K0 w w' := by
  refine vc_eparseRule s w _ ?_
  intro n W hW
  have kW : K0 w W := hW.kk rfl
  have gn : w.heap.size ≤ n := hW.fresh 0 rfl rfl
  obtain ⟨mm, hG1⟩ := hG.k0 kW
  refine ⟨(Tryz.strings_Split s ⟨#[32]⟩ mm W (by omega) hG1 (by decide)).mono fun e w2 ⟨he, hw2⟩ => ?_⟩
  have hlen : (partsC 32 s).length = Lib.countB s ⟨#[32]⟩ + 1 := Lib.splitB_all ⟨#[32]⟩ (by decide) 0 _ s rfl
  have hle : ∀ x ∈ partsC 32 s, x.size ≤ s.size := fun x hx => partsC_le _ _ hx
  have hn2 : NewB W (.cells ((partsC 32 s).map .string).toArray 9) W.heap.size w2 := ⟨rfl, hw2⟩
  rw [← hlen] at he
  have eL : line1 s = match partsC 32 s with
    | [a, b, c] => if (numR b 999999).2 ≠ 0 then .inr 3 else if (numR c 999999).2 ≠ 0 then .inr 3 else if rl1 ⟨a, (numR b 999999).1, (numR c 999999).1⟩ ≠ 0 then .inr (rl1 ⟨a, (numR b 999999).1, (numR c 999999).1⟩) else .inl ⟨a, (numR b 999999).1, (numR c 999999).1⟩
    | _ => .inr 3 := rfl
  rw [eL]
  generalize partsC 32 s = ps at *
  clear hw2 hlen eL
  have hbn : W.heap[n]? = some (.cells #[.string ⟨#[]⟩, .int .i64 0, .int .i64 0] 40 (0, 0)) := hW.cells 0 rfl
  have hnW : n < W.heap.size := block_lt hbn
  have k2 : K0 W w2 := hn2.kp _
  have hb2 := hn2.block
  generalize W.heap.size = np at he hn2 hb2 hnW
  refine ⟨_, _, _, he, .of_k0 k2, bsp_intro (fun h3 => fun W3 hW3 => ?_) (fun h3 => ?_)⟩
  · have h3 : ps.length ≠ 3 := by simp at h3; omega
    refine ⟨⟨⟨⟨#[]⟩, 0, 0⟩, 3, rfl, ?_⟩, hW3.k0 (kW.trans k2)⟩
    match ps, h3 with
    | [], _ => exact ⟨rfl, by decide⟩
    | [_], _ => exact ⟨rfl, by decide⟩
    | [_, _], _ => exact ⟨rfl, by decide⟩
    | [_, _, _], h => exact absurd rfl h
    | _ :: _ :: _ :: _ :: _, _ => exact ⟨rfl, by decide⟩
  have h3 : ps.length = 3 := by simp at h3; omega
  obtain ⟨a, b, c, rfl⟩ : ∃ a b c, ps = [a, b, c] := by
    match ps, h3 with
    | [a, b, c], _ => exact ⟨a, b, c, rfl⟩
  refine nn_is rfl ⟨⟨by omega, by show (1 : Int) < 3; omega⟩, b, cell_at hb2 rfl, ⟨(number_any b 999999 w2 (by have := hle b (by simp); omega) (by omega)).mono fun e w3 ⟨he, k3⟩ => ⟨_, _, he, .of_k0 k3, bsp_intro (fun hx => fun W3 hW3 => ?_) (fun hx => ?_)⟩⟩⟩
  · refine ⟨⟨⟨⟨#[]⟩, 0, 0⟩, 3, rfl, ?_⟩, hW3.k0 ((kW.trans k2).trans k3)⟩
    simp only
    rw [if_pos (by simpa using hx)]
    exact ⟨rfl, by decide⟩
  have hx : (numR b 999999).2 = 0 := by simpa using hx
  have hb3 := k3.blk hb2 (fun h => h)
  refine nn_is rfl ⟨⟨by omega, by show (2 : Int) < 3; omega⟩, c, cell_at hb3 rfl, ⟨(number_any c 999999 w3 (by have := hle c (by simp); omega) (by omega)).mono fun e w4 ⟨he, k4⟩ => ⟨_, _, he, .of_k0 k4, bsp_intro (fun hy => fun W3 hW3 => ?_) (fun hy => ?_)⟩⟩⟩
  · refine ⟨⟨⟨⟨#[]⟩, 0, 0⟩, 3, rfl, ?_⟩, hW3.k0 (((kW.trans k2).trans k3).trans k4)⟩
    simp only
    rw [if_neg (by simp [hx]), if_pos (by simpa using hy)]
    exact ⟨rfl, by decide⟩
  have hy : (numR c 999999).2 = 0 := by simpa using hy
  have hb4 := k4.blk hb3 (fun h => h)
  refine nn_is rfl ⟨⟨by omega, by show (0 : Int) < 3; omega⟩, a, cell_at hb4 rfl, fun n2 W5 hW5 => ?_⟩
  simp only
  rw [if_neg (by simp [hx]), if_neg (by simp [hy])]
  generalize (numR b 999999).1 = lo at *
  generalize (numR c 999999).1 = hi at *
  have k5 : K0 w4 W5 := hW5.kk rfl
  have kw5 : K0 w W5 := (((kW.trans k2).trans k3).trans k4).trans k5
  have hbx : W5.heap[n2]? = some (.cells #[.string a, .int .i64 lo, .int .i64 hi] 40 (0, 0)) := hW5.cells 0 rfl
  have hbn5 := (((k2.trans k3).trans k4).trans k5).blk hbn (fun h => h)
  have hne : n2 ≠ n := hW5.apart 0 1 rfl rfl (by decide)
  refine ⟨fun wx => K0 W5 wx, .refl _ _, a, lo, hi, fun wx kx => AtL_block (kx.blk hbx (fun h => h)) rfl, a, lo, hi, fun wx kx => AtL_block (kx.blk hbx (fun h => h)) rfl, fun n3 w6 hn3 => ⟨hn3.kp _, ?_⟩⟩
  have k6 : K0 W5 w6 := hn3.kp _
  have hrow : RowA rlC 3 w6 (some ⟨n3, 0, none⟩) [(⟨a, lo, hi⟩ : Rl)] := fun k y hy => by
    match k, hy with
    | 0, hy =>
      simp at hy; subst hy
      exact ⟨n3, 0, rfl, AtL_block hn3.block rfl⟩
    | k + 1, hy => simp at hy
  refine ⟨(echeck_any [⟨a, lo, hi⟩] (some ⟨n3, 0, none⟩) 1 w6 hrow).mono fun e w7 ⟨he, k7⟩ => ?_⟩
  have kk7 : K0 W5 w7 := k6.trans k7
  have hbn7 := kk7.blk hbn5 (fun h => h)
  have hbx7 := kk7.blk hbx (fun h => h)
  refine ⟨_, he, kk7, WrL_block hbn7 (Nat.le_refl 3), fun w8 hp => ⟨.of_kp (Kp.trans (kk7.mono (fun _ _ h => h.elim)) hp.kp) (fun z hz e => ?_), a, lo, hi, AtL_block (hp.full hbn7 rfl) rfl, ?_, put_k0 (kw5.trans kk7) hp gn⟩⟩
  · simp at hz; omega
  have eC : chkR [⟨a, lo, hi⟩] = rl1 ⟨a, lo, hi⟩ := by
    unfold chkR rlF rlF
    rw [if_neg (by show ¬ 64 < 1; omega)]
    split
    · rfl
    · rename_i h; simp at h; exact h.symm
  rw [eC]
  refine ⟨⟨a, lo, hi⟩, _, rfl, ?_⟩
  by_cases h : rl1 ⟨a, lo, hi⟩ = 0
  · rw [if_neg (by simp [h])]
    exact ⟨rfl, h⟩
  · rw [if_pos h]
    exact ⟨rfl, h⟩

theorem k0_drew (w : World) (n : Nat) : K0 w (w.drewN n) := ⟨rfl, rfl, rfl, Nat.le_refl _, fun _ _ _ => rfl⟩
theorem ba_eta (x : ByteArray) : (⟨x.data.toList.toArray⟩ : ByteArray) = x := rfl
theorem parseL_succ (f : Nat) (s : ByteArray) (line : Nat) (acc : List Rl) : parseL (f + 1) s line acc = if s.size = 0 then (acc, 0, 0) else
    if findC 10 s = s.size then ([], (line : Int), 4) else
    if 64 ≤ acc.length then ([], (line : Int), 9) else
    match line1 (s.extract 0 (findC 10 s)) with
    | .inr e => ([], (line : Int), e)
    | .inl r => parseL f (s.extract (findC 10 s + 1) s.size) (line + 1) (acc ++ [r]) := rfl
theorem line_err {t : ByteArray} {x : Int} (h : line1 t = .inr x) : x ≠ 0 := by
  unfold line1 at h
  split at h
  · split at h
    · simp at h; omega
    · split at h
      · simp at h; omega
      · split at h
        · rename_i h0; simp at h; rw [← h]; exact h0
        · cases h
  · simp at h; omega
theorem eparse_any (s : ByteArray) (w : World) (hs : s.size ≤ 1073741824) (hG : GX w) :
    Calls Tryz.prog 6 #[.string s] w fun e w' => (∃ (p : Option Addr) (c : Nat), e = .returned (.tuple #[.slice p (parseR s).1.length c, .int .i64 (parseR s).2.1, .int .i64 (parseR s).2.2]) ∧ w'.ownsRow w.heap.size 40 3 (.slice p (parseR s).1.length c) (parseR s).1.length ((parseR s).1.flatMap rlC)) ∧ K0 w w' := by
  refine vc_eparse s w _ ?_
  unfold parseR
  generalize hR : parseL (s.size + 1) s 1 [] = G
  refine ⟨fun vs w' => ∃ (line f : Nat) (acc : List Rl) (p : Option Addr) (c : Nat) (t : ByteArray), vs = [.int .i64 (line : Int), .slice p acc.length c, .string t] ∧ t.size < f ∧ line + t.size ≤ s.size + 1 ∧ parseL f t line acc = G ∧ w'.ownsRow w.heap.size 40 3 (.slice p acc.length c) acc.length (acc.flatMap rlC) ∧ acc.length ≤ 64 ∧ K0 w w',
    fun vs _ => (match vs with | [_, _, .string t] => t.size | _ => 0), ⟨1, s.size + 1, [], none, 0, s, rfl, by omega, by omega, hR, World.ownsRow_nil _ _ _ _, by simp, .refl _ _⟩, ?_⟩
  rintro x p n c t w1 ⟨line, f, acc, p', c', t', hv, hf, hl, hE, ho, h64, k1⟩
  simp only [List.cons.injEq, Value.int.injEq, Value.slice.injEq, Value.string.injEq, true_and, and_true] at hv
  obtain ⟨rfl, ⟨rfl, rfl, rfl⟩, rfl⟩ := hv
  obtain ⟨f, rfl⟩ : ∃ g, f = g + 1 := ⟨f - 1, by omega⟩
  rw [parseL_succ] at hE
  rw [toList_nil]
  have fail : ∀ (x : Int) (w2 : World), K0 w w2 → G = ([], (line : Int), x) → (∃ (p : Option Addr) (c : Nat), Ending.returned (.tuple #[.slice none 0 0, .int .i64 line, .int .i64 x]) = .returned (.tuple #[.slice p G.1.length c, .int .i64 G.2.1, .int .i64 G.2.2]) ∧ w2.ownsRow w.heap.size 40 3 (.slice p G.1.length c) G.1.length (G.1.flatMap rlC)) ∧ K0 w w2 := fun x w2 k2 hg => by
    subst hg
    exact ⟨⟨none, 0, rfl, World.ownsRow_nil _ _ _ _⟩, k2⟩
  refine bsp_intro (fun h0 => ?_) (fun h0 => ?_)
  · have h0 : ¬ t.size = 0 := by simpa using h0
    rw [if_neg h0] at hE
    have hfc := findC_first 10 t
    generalize findC 10 t = i at *
    obtain ⟨mm, hG1⟩ := hG.k0 k1
    refine ⟨(Tryz.strings_Cut t ⟨#[10]⟩ mm w1 (by omega) hG1).mono fun e w2 ⟨he, ⟨q, hw2⟩⟩ => ?_⟩
    have k2 : K0 w1 w2 := by rw [hw2]; exact k0_drew _ _
    clear hw2
    have k12 := k1.trans k2
    by_cases hi : i < t.size
    · rw [if_neg (by omega)] at hE
      rw [show (⟨#[10]⟩ : ByteArray).data.toList = [10] from rfl, cut_hit hfc hi] at he
      refine ⟨_, _, _, he, .of_k0 k2, bsp_intro (fun h => by simp at h) (fun _ => bsp_intro (fun hn => ?_) (fun hn => ?_))⟩
      · rw [if_pos (by simp at hn; omega)] at hE
        exact fail 9 w2 k12 hE.symm
      have hn : acc.length < 64 := by simp at hn; omega
      rw [if_neg (by omega)] at hE
      refine ⟨(eparseRule_any (t.extract 0 i) w2 (by rw [ByteArray.size_extract]; omega) (hG.k0 k12)).mono fun e w3 ⟨⟨r, x, he, hm⟩, k3⟩ => ⟨_, _, _, _, he, .of_k0 k3, fun n1 => bsp_intro (fun hx => fun W hW => ?_) (fun hx => fun n2 W hW => ?_)⟩⟩
      · have hx : x ≠ 0 := by simpa using hx
        refine fail x W ((k12.trans k3).trans (hW.kk rfl)) ?_
        cases hc : line1 (t.extract 0 i) with
        | inl r' => rw [hc] at hm; exact absurd hm.2 hx
        | inr x' => rw [hc] at hm hE; rw [← hE, hm.1]
      · have hx : x = 0 := by simpa using hx
        cases hc : line1 (t.extract 0 i) with
        | inr x' => rw [hc] at hm; exact absurd hx hm.2
        | inl r' =>
          rw [hc] at hm hE
          obtain ⟨rfl, _⟩ := hm
          simp only at hE
          have k4 : K0 w3 W := hW.kk rfl
          have k14 : K0 w1 W := (k2.trans k3).trans k4
          have ho4 := owns_kp ho k14 (fun _ _ h => h)
          have g1 : w3.heap.size ≤ n1 := hW.fresh 1 rfl rfl
          refine ⟨_, _, ho4, by omega, by omega, Nat.le_trans k1.size k14.size, fun p2 c2 w5 ho5 hg5 _ => ?_⟩
          have hk5 := kp_grown hg5
          have kk : K0 w w5 := (k1.trans k14).fresh hk5 (fun j hj e => by have := own_ge ho4 e; omega)
          refine ⟨.of_kp hk5 (fun z hz e => ?_), ⟨line + 1, f, acc ++ [r], p2, c2, t.extract (i + 1) t.size, ?_, ?_, ?_, hE, ?_, by simp; omega, kk⟩, ?_⟩
          · simp at hz
            subst hz
            have := own_lt ho e
            have := (k2.trans k3).size
            omega
          · rw [inc64 (by omega), List.length_append]; rfl
          · rw [ByteArray.size_extract]; omega
          · rw [ByteArray.size_extract]; omega
          · rw [List.length_append, List.flatMap_append]; simpa [rlC] using ho5
          · show (t.extract (i + 1) t.size).size < t.size
            rw [ByteArray.size_extract]; omega
    · have hi' : i = t.size := by have := hfc.2.1; omega
      rw [if_pos hi'] at hE
      rw [show (⟨#[10]⟩ : ByteArray).data.toList = [10] from rfl, cut_miss hfc hi] at he
      exact ⟨_, _, _, he, .of_k0 k2, bsp_intro (fun _ => fail 4 w2 k12 hE.symm) (fun h => by simp at h)⟩
  · have h0 : t.size = 0 := by simpa using h0
    rw [if_pos h0] at hE
    subst hE
    exact ⟨⟨p, c, rfl, ho⟩, k1⟩

end Go.Proofs.YtmjanmffnblcoaaGreatDoor
