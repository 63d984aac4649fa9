/- The formulas of functions by the symbolic evaluator, and that each gives the call's contract. Written by a program (gen.py). No condition. -/
import Derived.Test.YtmjanmffnblcoaaProg
import Derived.Test.YtmjanmffnblcoaaZ02
import Derived.Test.YtmjanmffnblcoaaZ08
import Derived.Test.YtmjanmffnblcoaaZ04
import Derived.KernelRfl
import Derived.Test.YtmjanmffnblcoaaZ06
import Derived.Lib.SplitLaws
import Derived.Lib.CountLaws
import Derived.Test.YtmjanmffnblcoaaZ05
namespace Go.Proofs.Ytmjanmffnblcoaa
set_option maxRecDepth 100000
set_option linter.unusedVariables false

def VC_eprot (b : Nat) (o : Nat) (id : Nat → Int) (dt : Int) (ar : Int) (gp : Option Addr) (gn : Nat) (gc : Nat) (by_ : Int) (ct : Int) (hp : Option Addr) (hn : Nat) (hc : Nat) (wd : Bool) (fx : Bool) (ov : Bool) (my : Bool) (w : World) (R : Ending → World → Prop) : Prop :=
 ∀ (n n_1 : Nat),
 ∃ (f : Nat → Int),
 ∃ (x : Int),
 ∃ (x_1 : Int),
 ∃ (p : Option Addr),
 ∃ (n_2 : Nat),
 ∃ (c : Nat),
 ∃ (x_2 : Int),
 ∃ (x_3 : Int),
 ∃ (p_1 : Option Addr),
 ∃ (n_3 : Nat),
 ∃ (c_1 : Nat),
 ∃ (x_4 : Bool),
 gimp (!fx)
 (∀ (W : World),
 Loc w.heap.size
 [Blk.mk n_1 109
 (arrI IntKind.u8 id 32 0 ++ [Value.int IntKind.i64 dt,
 Value.int IntKind.i64 ar, Value.slice gp gn gc, Value.int IntKind.i64 by_,
 Value.int IntKind.i64 ct, Value.slice hp hn hc, Value.bool wd, Value.bool fx, Value.bool ov,
 Value.bool my])
 2,
 Blk.mk n 77 [Value.pointer (some (Addr.mk b o none))] 2]
 w W →
 AtL W n_1 0
 (arrI IntKind.u8 f 32 0 ++ [Value.int IntKind.i64 x,
 Value.int IntKind.i64 x_1, Value.slice p n_2 c, Value.int IntKind.i64 x_2, Value.int IntKind.i64 x_3,
 Value.slice p_1 n_3 c_1, Value.bool x_4])) ∧
 ∀ (W : World),
 Loc w.heap.size
 [Blk.mk n_1 109
 (arrI IntKind.u8 id 32 0 ++ [Value.int IntKind.i64 dt,
 Value.int IntKind.i64 ar, Value.slice gp gn gc, Value.int IntKind.i64 by_, Value.int IntKind.i64 ct,
 Value.slice hp hn hc, Value.bool wd, Value.bool fx, Value.bool ov, Value.bool my])
 2,
 Blk.mk n 77 [Value.pointer (some (Addr.mk b o none))] 2]
 w W →
 bsp (!fx)
 (CallsS Try.prog 15
 #[Value.agg
 (arrI IntKind.u8 f 32 0 ++ [Value.int IntKind.i64 x,
 Value.int IntKind.i64 x_1, Value.slice p n_2 c, Value.int IntKind.i64 x_2,
 Value.int IntKind.i64 x_3, Value.slice p_1 n_3 c_1, Value.bool x_4]).toArray,
 Value.func (Fn.func 74) #[] #[Value.pointer (some (Addr.mk n 0 none))]]
 W fun (e : Ending) (w' : World) =>
 ∃ (x : Bool),
 e = Ending.returned (Value.bool x) ∧
 KeptL [n_1] W w' ∧ R (Ending.returned (Value.bool (false || x))) w')
 (KeptL [n_1] W W ∧ R (Ending.returned (Value.bool true)) W)
theorem vc_eprot (b : Nat) (o : Nat) (id : Nat → Int) (dt : Int) (ar : Int) (gp : Option Addr) (gn : Nat) (gc : Nat) (by_ : Int) (ct : Int) (hp : Option Addr) (hn : Nat) (hc : Nat) (wd : Bool) (fx : Bool) (ov : Bool) (my : Bool) (w : World) (R : Ending → World → Prop) (h : VC_eprot b o id dt ar gp gn gc by_ ct hp hn hc wd fx ov my w R) : Calls Try.prog 61 ([Value.pointer
    (some { block := b, off := o }),
  Value.agg
    (arrI IntKind.u8 id 32 0 ++
        [Value.int IntKind.i64 dt, Value.int IntKind.i64 ar, Value.slice gp gn gc, Value.int IntKind.i64 by_,
          Value.int IntKind.i64 ct, Value.slice hp hn hc, Value.bool wd, Value.bool fx, Value.bool ov,
          Value.bool my]).toArray] : List Value).toArray w R := by
  have e : execR2 { P := Try.prog, loops := [], pur := pur2, tails := [], joins := [], boxes := [] } Try.f61.results.toList R (Try.f61.body.getD .skip) (initF [Value.pointer
    (some { block := b, off := o }),
  Value.agg
    (arrI IntKind.u8 id 32 0 ++
        [Value.int IntKind.i64 dt, Value.int IntKind.i64 ar, Value.slice gp gn gc, Value.int IntKind.i64 by_,
          Value.int IntKind.i64 ct, Value.slice hp hn hc, Value.bool wd, Value.bool fx, Value.bool ov,
          Value.bool
            my]).toArray] (Try.f61.ntmps - ([Value.pointer (some { block := b, off := o }),
  Value.agg
    (arrI IntKind.u8 id 32 0 ++
        [Value.int IntKind.i64 dt, Value.int IntKind.i64 ar, Value.slice gp gn gc, Value.int IntKind.i64 by_,
          Value.int IntKind.i64 ct, Value.slice hp hn hc, Value.bool wd, Value.bool fx, Value.bool ov,
          Value.bool
            my]).toArray] : List Value).length)) w = VC_eprot b o id dt ar gp gn gc by_ ct hp hn hc wd fx ov my w R := by kernel_rfl
  have hb : Try.f61.body = some (Try.f61.body.getD .skip) := by kernel_rfl
  exact calls_of_exec2' (P := Try.prog) (fn := Try.f61) (c := Try.f61.body.getD .skip) (args := [Value.pointer
    (some { block := b, off := o }),
  Value.agg
    (arrI IntKind.u8 id 32 0 ++
        [Value.int IntKind.i64 dt, Value.int IntKind.i64 ar, Value.slice gp gn gc, Value.int IntKind.i64 by_,
          Value.int IntKind.i64 ct, Value.slice hp hn hc, Value.bool wd, Value.bool fx, Value.bool ov,
          Value.bool my]).toArray]) (w := w) (R := R) pur2_ok Try.func61 hb e h

def VC_eprot1 (id : Nat → Int) (b : Nat) (o : Nat) (w : World) (R : Ending → World → Prop) : Prop :=
 ∀ (n : Nat),
 ∃ (x : Option Addr),
 (∀ (W : World),
 Loc w.heap.size
 [Blk.mk n 38
 (arrI IntKind.u8 id 32 0)
 2]
 w W →
 W.cell? (Addr.mk b o none) = some (Value.pointer x)) ∧
 nn true x fun (b o : Nat) =>
 ∃ (x : Option Nat),
 (∀ (W : World),
 Loc w.heap.size
 [Blk.mk n 38
 (arrI IntKind.u8 id 32 0)
 2]
 w W →
 W.cell? (Addr.mk b (o + 1) none) = some (Value.map x)) ∧
 ∃ (x_1 : Bool),
 (∀ (W : World),
 Loc w.heap.size
 [Blk.mk n 38
 (arrI IntKind.u8 id 32 0)
 2]
 w W →
 LookP Try.prog 97 (Value.map x)
 (Value.agg
 (arrI IntKind.u8 id 32 0).toArray)
 false (Value.bool x_1) W) ∧
 ∀ (W : World),
 Loc w.heap.size
 [Blk.mk n 38
 (arrI IntKind.u8 id 32 0)
 2]
 w W →
 R (Ending.returned (Value.bool x_1)) W
theorem vc_eprot1 (id : Nat → Int) (b : Nat) (o : Nat) (w : World) (R : Ending → World → Prop) (h : VC_eprot1 id b o w R) : Calls Try.prog 74 ([Value.agg
    (arrI IntKind.u8 id 32 0).toArray,
  Value.pointer (some { block := b, off := o })] : List Value).toArray w R := by
  have e : execR2 { P := Try.prog, loops := [], pur := pur2, tails := [], joins := [], boxes := [] } Try.f74.results.toList R (Try.f74.body.getD .skip) (initF [Value.agg
    (arrI IntKind.u8 id 32 0).toArray,
  Value.pointer
    (some
      { block := b,
        off :=
          o })] (Try.f74.ntmps - ([Value.agg (arrI IntKind.u8 id 32 0).toArray,
  Value.pointer (some { block := b, off := o })] : List Value).length)) w = VC_eprot1 id b o w R := by kernel_rfl
  have hb : Try.f74.body = some (Try.f74.body.getD .skip) := by kernel_rfl
  exact calls_of_exec2' (P := Try.prog) (fn := Try.f74) (c := Try.f74.body.getD .skip) (args := [Value.agg
    (arrI IntKind.u8 id 32 0).toArray,
  Value.pointer (some { block := b, off := o })]) (w := w) (R := R) pur2_ok Try.func74 hb e h

def VC_estep (b : Nat) (o : Nat) (w : World) (R : Ending → World → Prop) : Prop :=
 ∀ (n n_1 : Nat) (W : World),
 Loc w.heap.size
 [Blk.mk n_1 44
 [Value.int IntKind.u8 0, Value.int IntKind.u8 0, Value.int IntKind.u8 0, Value.int IntKind.u8 0,
 Value.int IntKind.u8 0, Value.int IntKind.u8 0, Value.int IntKind.u8 0, Value.int IntKind.u8 0,
 Value.int IntKind.u8 0, Value.int IntKind.u8 0, Value.int IntKind.u8 0, Value.int IntKind.u8 0,
 Value.int IntKind.u8 0, Value.int IntKind.u8 0, Value.int IntKind.u8 0, Value.int IntKind.u8 0,
 Value.int IntKind.u8 0, Value.int IntKind.u8 0, Value.int IntKind.u8 0, Value.int IntKind.u8 0,
 Value.int IntKind.u8 0, Value.int IntKind.u8 0, Value.int IntKind.u8 0, Value.int IntKind.u8 0,
 Value.int IntKind.u8 0, Value.int IntKind.u8 0, Value.int IntKind.u8 0, Value.int IntKind.u8 0,
 Value.int IntKind.u8 0, Value.int IntKind.u8 0, Value.int IntKind.u8 0, Value.int IntKind.u8 0,
 Value.int IntKind.i64 0]
 2,
 Blk.mk n 77 [Value.pointer (some (Addr.mk b o none))] 2]
 w W →
 ∀ (n_2 n_3 : Nat) (W_1 : World),
 Loc w.heap.size
 [Blk.mk n_3 116 [Value.slice (some (Addr.mk n_2 0 none)) 4 4] (wrM 2),
 Blk.mk n_2 115
 [Value.nilFunc, Value.func (Fn.func 56) #[] #[], Value.func (Fn.func 57) #[] #[],
 Value.func (Fn.func 58) #[] #[Value.pointer (some (Addr.mk n 0 none))]]
 2,
 Blk.mk n_1 44
 [Value.int IntKind.u8 0, Value.int IntKind.u8 0, Value.int IntKind.u8 0, Value.int IntKind.u8 0,
 Value.int IntKind.u8 0, Value.int IntKind.u8 0, Value.int IntKind.u8 0, Value.int IntKind.u8 0,
 Value.int IntKind.u8 0, Value.int IntKind.u8 0, Value.int IntKind.u8 0, Value.int IntKind.u8 0,
 Value.int IntKind.u8 0, Value.int IntKind.u8 0, Value.int IntKind.u8 0, Value.int IntKind.u8 0,
 Value.int IntKind.u8 0, Value.int IntKind.u8 0, Value.int IntKind.u8 0, Value.int IntKind.u8 0,
 Value.int IntKind.u8 0, Value.int IntKind.u8 0, Value.int IntKind.u8 0, Value.int IntKind.u8 0,
 Value.int IntKind.u8 0, Value.int IntKind.u8 0, Value.int IntKind.u8 0, Value.int IntKind.u8 0,
 Value.int IntKind.u8 0, Value.int IntKind.u8 0, Value.int IntKind.u8 0, Value.int IntKind.u8 0,
 Value.int IntKind.i64 0]
 0]
 W W_1 →
 ∀ (n_4 : Nat) (W : World),
 Loc w.heap.size
 [Blk.mk n_4 3 [Value.int IntKind.i64 1] (wrM 2), Blk.mk n_3 116 [Value.slice (some (Addr.mk n_2 0 none)) 4 4] 0,
 Blk.mk n_1 44
 [Value.int IntKind.u8 0, Value.int IntKind.u8 0, Value.int IntKind.u8 0, Value.int IntKind.u8 0,
 Value.int IntKind.u8 0, Value.int IntKind.u8 0, Value.int IntKind.u8 0, Value.int IntKind.u8 0,
 Value.int IntKind.u8 0, Value.int IntKind.u8 0, Value.int IntKind.u8 0, Value.int IntKind.u8 0,
 Value.int IntKind.u8 0, Value.int IntKind.u8 0, Value.int IntKind.u8 0, Value.int IntKind.u8 0,
 Value.int IntKind.u8 0, Value.int IntKind.u8 0, Value.int IntKind.u8 0, Value.int IntKind.u8 0,
 Value.int IntKind.u8 0, Value.int IntKind.u8 0, Value.int IntKind.u8 0, Value.int IntKind.u8 0,
 Value.int IntKind.u8 0, Value.int IntKind.u8 0, Value.int IntKind.u8 0, Value.int IntKind.u8 0,
 Value.int IntKind.u8 0, Value.int IntKind.u8 0, Value.int IntKind.u8 0, Value.int IntKind.u8 0,
 Value.int IntKind.i64 0]
 0]
 W_1 W →
 ∃ (I : List Value → World → Prop),
 ∃ (m : List Value → World → Nat),
 I [Value.pointer (some (Addr.mk n_4 0 none))] W ∧
 ∀ (x : Option Addr) (w' : World),
 I [Value.pointer x] w' →
 nn true x fun (b o : Nat) =>
 ∃ (x_1 : Int),
 w'.cell? (Addr.mk b o none) = some (Value.int IntKind.i64 x_1) ∧
 bsp (decide (x_1 ≤ 3))
 (∃ (x_2 : Option Addr),
 w'.cell? (Addr.mk n 0 none) = some (Value.pointer x_2) ∧
 nn true x_2 fun (b o : Nat) =>
 ∃ (p : Option Addr),
 ∃ (n_5 : Nat),
 ∃ (c : Nat),
 w'.cell? (Addr.mk b o none) = some (Value.slice p n_5 c) ∧
 CallsS Try.prog 59
 #[Value.slice p n_5 c,
 Value.func (Fn.func 60) #[]
 #[Value.pointer (some (Addr.mk n_3 0 none)), Value.pointer x,
 Value.pointer (some (Addr.mk n 0 none))]]
 w' fun (e : Ending) (w'_1 : World) =>
 ∃ (x_3 : Int),
 e = Ending.returned (Value.int IntKind.i64 x_3) ∧
 KeptL [] w' w'_1 ∧
 bsp (decide (x_3 < 0))
 (nn true x fun (b o : Nat) =>
 ∃ (x_4 : Int),
 w'_1.cell? (Addr.mk b o none) = some (Value.int IntKind.i64 x_4) ∧
 ∀ (n : Nat) (W : World),
 Loc w.heap.size
 [Blk.mk n 3 [Value.int IntKind.i64 (IntKind.i64.wrap (x_4 + 1))] (wrM (wrM 2))] w'_1
 W →
 I [Value.pointer (some (Addr.mk n 0 none))] W ∧
 m [Value.pointer (some (Addr.mk n 0 none))] W < m [Value.pointer x] w')
 (∃ (x_4 : Option Addr),
 w'_1.cell? (Addr.mk n 0 none) = some (Value.pointer x_4) ∧
 nn true x_4 fun (b o : Nat) =>
 ∃ (p : Option Addr),
 ∃ (n_6 : Nat),
 ∃ (c : Nat),
 w'_1.cell? (Addr.mk b o none) = some (Value.slice p n_6 c) ∧
 nn true p fun (b o : Nat) =>
 (0 ≤ x_3 ∧ x_3 < (↑n_6 : Int)) ∧
 ∃ (f : Nat → Int),
 ∃ (x_5 : Int),
 ∃ (x_6 : Int),
 ∃ (p : Option Addr),
 ∃ (n_7 : Nat),
 ∃ (c : Nat),
 ∃ (x_7 : Int),
 ∃ (x_8 : Int),
 ∃ (p_1 : Option Addr),
 ∃ (n_8 : Nat),
 ∃ (c_1 : Nat),
 ∃ (x_9 : Bool),
 ∃ (x_10 : Bool),
 ∃ (x_11 : Bool),
 ∃ (x_12 : Bool),
 AtL w'_1 b (o + x_3.toNat * 42)
 (arrI IntKind.u8 f 32 0 ++ [Value.int IntKind.i64 x_5, Value.int IntKind.i64 x_6,
 Value.slice p n_7 c, Value.int IntKind.i64 x_7,
 Value.int IntKind.i64 x_8, Value.slice p_1 n_8 c_1,
 Value.bool x_9, Value.bool x_10, Value.bool x_11,
 Value.bool x_12]) ∧
 ∀ (n_9 : Nat) (W : World),
 Loc w.heap.size
 [Blk.mk n_9 109
 (arrI IntKind.u8 f 32 0 ++ [Value.int IntKind.i64 x_5, Value.int IntKind.i64 x_6,
 Value.slice p n_7 c, Value.int IntKind.i64 x_7,
 Value.int IntKind.i64 x_8, Value.slice p_1 n_8 c_1,
 Value.bool x_9, Value.bool x_10, Value.bool x_11,
 Value.bool x_12])
 (wrM 2)]
 w'_1 W →
 ∃ (S : World → Prop),
 S W ∧
 ∃ (x_13 : Option Addr),
 (∀ (w' : World),
 S w' →
 w'.cell? (Addr.mk n 0 none) = some (Value.pointer x_13)) ∧
 ∃ (x_14 : Option Addr),
 (∀ (w' : World),
 S w' →
 w'.cell? (Addr.mk n 0 none) = some (Value.pointer x_14)) ∧
 nn true x_14 fun (b o : Nat) =>
 ∃ (p_2 : Option Addr),
 ∃ (n_10 : Nat),
 ∃ (c_2 : Nat),
 (∀ (w' : World),
 S w' →
 w'.cell? (Addr.mk b o none) =
 some (Value.slice p_2 n_10 c_2)) ∧
 CallsS Try.prog 62
 #[Value.slice p_2 n_10 c_2, Value.int IntKind.i64 x_3,
 Value.int IntKind.i64 (IntKind.i64.wrap (x_3 + 1))]
 W fun (e : Ending) (w' : World) =>
 ∃ (p_3 : Option Addr),
 ∃ (n_11 : Nat),
 ∃ (c_3 : Nat),
 e = Ending.returned (Value.slice p_3 n_11 c_3) ∧
 S w' ∧
 nn true x_13 fun (b o : Nat) =>
 ((∃ (u : Value),
 w'.cell? (Addr.mk b o none) = some u) ∧
 w'.frozen? (Addr.mk b o none) = false) ∧
 ∀ (w1 : World),
 PutB w' b o [Value.slice p_3 n_11 c_3] w1 →
 KeptL [n_9] W w1 ∧
 ∃ (x_15 : Option Addr),
 (∀ (W : World),
 Loc w.heap.size
 [Blk.mk n_9 109
 (arrI IntKind.u8 f 32 0 ++ [Value.int IntKind.i64 x_5,
 Value.int IntKind.i64 x_6,
 Value.slice p n_7 c,
 Value.int IntKind.i64 x_7,
 Value.int IntKind.i64 x_8,
 Value.slice p_1 n_8 c_1,
 Value.bool x_9, Value.bool x_10,
 Value.bool x_11, Value.bool x_12])
 0]
 w1 W →
 W.cell? (Addr.mk n 0 none) =
 some (Value.pointer x_15)) ∧
 nn true x_15 fun (b o : Nat) =>
 ∃ (x_16 : Option Nat),
 (∀ (W : World),
 Loc w.heap.size
 [Blk.mk n_9 109
 (arrI IntKind.u8 f 32 0 ++ [Value.int IntKind.i64 x_5,
 Value.int IntKind.i64 x_6,
 Value.slice p n_7 c,
 Value.int IntKind.i64 x_7,
 Value.int IntKind.i64 x_8,
 Value.slice p_1 n_8 c_1,
 Value.bool x_9, Value.bool x_10,
 Value.bool x_11, Value.bool x_12])
 0]
 w1 W →
 W.cell? (Addr.mk b (o + 1) none) =
 some (Value.map x_16)) ∧
 ∀ (W : World),
 Loc w.heap.size
 [Blk.mk n_9 109
 (arrI IntKind.u8 f 32 0 ++ [Value.int IntKind.i64 x_5,
 Value.int IntKind.i64 x_6,
 Value.slice p n_7 c,
 Value.int IntKind.i64 x_7,
 Value.int IntKind.i64 x_8,
 Value.slice p_1 n_8 c_1,
 Value.bool x_9, Value.bool x_10,
 Value.bool x_11, Value.bool x_12])
 0]
 w1 W →
 ∃ (w1 : World),
 BltP Try.prog Builtin.delete
 [97, 38]
 [Value.map x_16,
 Value.agg
 (arrI IntKind.u8 f 32 0).toArray]
 W w1 ∧
 KeptL [n_9] W w1 ∧
 ∃ (x_17 : Option Addr),
 (∀ (W : World),
 Loc w.heap.size
 [Blk.mk n_9 109
 (arrI IntKind.u8 f 32 0 ++ [Value.int IntKind.i64 x_5,
 Value.int IntKind.i64 x_6,
 Value.slice p n_7 c,
 Value.int IntKind.i64 x_7,
 Value.int IntKind.i64 x_8,
 Value.slice p_1 n_8 c_1,
 Value.bool x_9,
 Value.bool x_10,
 Value.bool x_11,
 Value.bool x_12])
 0]
 w1 W →
 W.cell? (Addr.mk n 0 none) =
 some (Value.pointer x_17)) ∧
 nn true x_17 fun (b o : Nat) =>
 ∃ (x_18 : Int),
 (∀ (W : World),
 Loc w.heap.size
 [Blk.mk n_9 109
 (arrI IntKind.u8 f 32 0 ++ [Value.int IntKind.i64
 x_5,
 Value.int IntKind.i64
 x_6,
 Value.slice p n_7 c,
 Value.int IntKind.i64
 x_7,
 Value.int IntKind.i64
 x_8,
 Value.slice p_1 n_8
 c_1,
 Value.bool x_9,
 Value.bool x_10,
 Value.bool x_11,
 Value.bool x_12])
 0]
 w1 W →
 W.cell?
 (Addr.mk b (o + 2)
 none) =
 some
 (Value.int IntKind.i64
 x_18)) ∧
 nn true x_17
 fun (b o : Nat) =>
 ∀ (W : World),
 Loc w.heap.size
 [Blk.mk n_9 109
 (arrI IntKind.u8 f 32 0 ++ [Value.int IntKind.i64
 x_5,
 Value.int IntKind.i64
 x_6,
 Value.slice p n_7 c,
 Value.int IntKind.i64
 x_7,
 Value.int IntKind.i64
 x_8,
 Value.slice p_1 n_8
 c_1,
 Value.bool x_9,
 Value.bool x_10,
 Value.bool x_11,
 Value.bool x_12])
 0]
 w1 W →
 ((∃ (u : Value),
 W.cell?
 (Addr.mk b (o + 2)
 none) =
 some u) ∧
 W.frozen?
 (Addr.mk b (o + 2)
 none) =
 false) ∧
 ∀ (w1 : World),
 PutB W b (o + 2)
 [Value.int IntKind.i64
 (IntKind.i64.wrap
 (x_18 - x_7))]
 w1 →
 KeptL [n_9] W w1 ∧
 nn true x
 fun (b o : Nat) =>
 ∃ (x : Int),
 w1.cell?
 (Addr.mk b o
 none) =
 some
 (Value.int
 IntKind.i64 x) ∧
 WrL w1 n_1 0 33 ∧
 ∀ (w1_1 : World),
 PutB w1 n_1 0
 (arrI IntKind.u8 f 32 0 ++ [Value.int
 IntKind.i64
 x])
 w1_1 →
 KeptL [n_9] w1
 w1_1 ∧
 ∃ (f :
 Nat → Int),
 ∃ (x : Int),
 AtL w1_1 n_1
 0
 (arrI IntKind.u8 f 32 0 ++ [Value.int
 IntKind.i64
 x]) ∧
 R
 (Ending.returned
 (Value.tuple
 #[Value.agg
 (arrI IntKind.u8 f 32 0 ++ [Value.int
 IntKind.i64
 x]).toArray,
 Value.bool
 true]))
 w1_1))
 (WrL w' n_1 0 33 ∧
 ∀ (w1 : World),
 PutB w' n_1 0
 [Value.int IntKind.u8 0, Value.int IntKind.u8 0, Value.int IntKind.u8 0, Value.int IntKind.u8 0,
 Value.int IntKind.u8 0, Value.int IntKind.u8 0, Value.int IntKind.u8 0, Value.int IntKind.u8 0,
 Value.int IntKind.u8 0, Value.int IntKind.u8 0, Value.int IntKind.u8 0, Value.int IntKind.u8 0,
 Value.int IntKind.u8 0, Value.int IntKind.u8 0, Value.int IntKind.u8 0, Value.int IntKind.u8 0,
 Value.int IntKind.u8 0, Value.int IntKind.u8 0, Value.int IntKind.u8 0, Value.int IntKind.u8 0,
 Value.int IntKind.u8 0, Value.int IntKind.u8 0, Value.int IntKind.u8 0, Value.int IntKind.u8 0,
 Value.int IntKind.u8 0, Value.int IntKind.u8 0, Value.int IntKind.u8 0, Value.int IntKind.u8 0,
 Value.int IntKind.u8 0, Value.int IntKind.u8 0, Value.int IntKind.u8 0, Value.int IntKind.u8 0,
 Value.int IntKind.i64 0]
 w1 →
 KeptL [] w' w1 ∧
 ∃ (f : Nat → Int),
 ∃ (x : Int),
 AtL w1 n_1 0
 (arrI IntKind.u8 f 32 0 ++ [Value.int IntKind.i64 x]) ∧
 R
 (Ending.returned
 (Value.tuple
 #[Value.agg
 (arrI IntKind.u8 f 32 0 ++ [Value.int IntKind.i64 x]).toArray,
 Value.bool false]))
 w1)
theorem vc_estep (b : Nat) (o : Nat) (w : World) (R : Ending → World → Prop) (h : VC_estep b o w R) : Calls Try.prog 32 ([Value.pointer
    (some { block := b, off := o })] : List Value).toArray w R := by
  have e : execR2 { P := Try.prog, loops := [(3, [(5, .ptr)])], pur := pur2, tails := [(8, 8), (9, 7), (10, 10)], joins := [], boxes := [] } Try.f32.results.toList R (Try.f32.body.getD .skip) (initF [Value.pointer
    (some
      { block := b,
        off :=
          o })] (Try.f32.ntmps - ([Value.pointer
    (some { block := b, off := o })] : List Value).length)) w = VC_estep b o w R := by kernel_rfl
  have hb : Try.f32.body = some (Try.f32.body.getD .skip) := by kernel_rfl
  exact calls_of_exec2' (P := Try.prog) (fn := Try.f32) (c := Try.f32.body.getD .skip) (args := [Value.pointer
    (some { block := b, off := o })]) (w := w) (R := R) pur2_ok Try.func32 hb e h

def VC_estep1 (id : Nat → Int) (dt : Int) (ar : Int) (gp : Option Addr) (gn : Nat) (gc : Nat) (by_ : Int) (ct : Int) (hp : Option Addr) (hn : Nat) (hc : Nat) (wd : Bool) (fx : Bool) (ov : Bool) (my : Bool) (w : World) (R : Ending → World → Prop) : Prop :=
 ∀ (n : Nat),
 ∃ (x : Int),
 gimp wd
 (∀ (W : World),
 Loc w.heap.size
 [Blk.mk n 109
 (arrI IntKind.u8 id 32 0 ++ [Value.int IntKind.i64 dt,
 Value.int IntKind.i64 ar, Value.slice gp gn gc, Value.int IntKind.i64 by_, Value.int IntKind.i64 ct,
 Value.slice hp hn hc, Value.bool wd, Value.bool fx, Value.bool ov, Value.bool my])
 2]
 w W →
 W.cell? (Addr.mk n (0 + 36) none) = some (Value.int IntKind.i64 x)) ∧
 ∀ (W : World),
 Loc w.heap.size
 [Blk.mk n 109
 (arrI IntKind.u8 id 32 0 ++ [Value.int IntKind.i64 dt, Value.int IntKind.i64 ar,
 Value.slice gp gn gc, Value.int IntKind.i64 by_, Value.int IntKind.i64 ct, Value.slice hp hn hc, Value.bool wd,
 Value.bool fx, Value.bool ov, Value.bool my])
 2]
 w W →
 R (Ending.returned (Value.bool (wd && x == 0))) W
theorem vc_estep1 (id : Nat → Int) (dt : Int) (ar : Int) (gp : Option Addr) (gn : Nat) (gc : Nat) (by_ : Int) (ct : Int) (hp : Option Addr) (hn : Nat) (hc : Nat) (wd : Bool) (fx : Bool) (ov : Bool) (my : Bool) (w : World) (R : Ending → World → Prop) (h : VC_estep1 id dt ar gp gn gc by_ ct hp hn hc wd fx ov my w R) : Calls Try.prog 56 ([Value.agg
    (arrI IntKind.u8 id 32 0 ++
        [Value.int IntKind.i64 dt, Value.int IntKind.i64 ar, Value.slice gp gn gc, Value.int IntKind.i64 by_,
          Value.int IntKind.i64 ct, Value.slice hp hn hc, Value.bool wd, Value.bool fx, Value.bool ov,
          Value.bool my]).toArray] : List Value).toArray w R := by
  have e : execR2 { P := Try.prog, loops := [], pur := pur2, tails := [], joins := [], boxes := [] } Try.f56.results.toList R (Try.f56.body.getD .skip) (initF [Value.agg
    (arrI IntKind.u8 id 32 0 ++
        [Value.int IntKind.i64 dt, Value.int IntKind.i64 ar, Value.slice gp gn gc, Value.int IntKind.i64 by_,
          Value.int IntKind.i64 ct, Value.slice hp hn hc, Value.bool wd, Value.bool fx, Value.bool ov,
          Value.bool
            my]).toArray] (Try.f56.ntmps - ([Value.agg
    (arrI IntKind.u8 id 32 0 ++
        [Value.int IntKind.i64 dt, Value.int IntKind.i64 ar, Value.slice gp gn gc, Value.int IntKind.i64 by_,
          Value.int IntKind.i64 ct, Value.slice hp hn hc, Value.bool wd, Value.bool fx, Value.bool ov,
          Value.bool
            my]).toArray] : List Value).length)) w = VC_estep1 id dt ar gp gn gc by_ ct hp hn hc wd fx ov my w R := by kernel_rfl
  have hb : Try.f56.body = some (Try.f56.body.getD .skip) := by kernel_rfl
  exact calls_of_exec2' (P := Try.prog) (fn := Try.f56) (c := Try.f56.body.getD .skip) (args := [Value.agg
    (arrI IntKind.u8 id 32 0 ++
        [Value.int IntKind.i64 dt, Value.int IntKind.i64 ar, Value.slice gp gn gc, Value.int IntKind.i64 by_,
          Value.int IntKind.i64 ct, Value.slice hp hn hc, Value.bool wd, Value.bool fx, Value.bool ov,
          Value.bool my]).toArray]) (w := w) (R := R) pur2_ok Try.func56 hb e h

def VC_estep2 (id : Nat → Int) (dt : Int) (ar : Int) (gp : Option Addr) (gn : Nat) (gc : Nat) (by_ : Int) (ct : Int) (hp : Option Addr) (hn : Nat) (hc : Nat) (wd : Bool) (fx : Bool) (ov : Bool) (my : Bool) (w : World) (R : Ending → World → Prop) : Prop :=
 ∀ (n : Nat) (W : World),
 Loc w.heap.size
 [Blk.mk n 109
 (arrI IntKind.u8 id 32 0 ++ [Value.int IntKind.i64 dt, Value.int IntKind.i64 ar,
 Value.slice gp gn gc, Value.int IntKind.i64 by_, Value.int IntKind.i64 ct, Value.slice hp hn hc, Value.bool wd,
 Value.bool fx, Value.bool ov, Value.bool my])
 2]
 w W →
 R (Ending.returned (Value.bool ov)) W
theorem vc_estep2 (id : Nat → Int) (dt : Int) (ar : Int) (gp : Option Addr) (gn : Nat) (gc : Nat) (by_ : Int) (ct : Int) (hp : Option Addr) (hn : Nat) (hc : Nat) (wd : Bool) (fx : Bool) (ov : Bool) (my : Bool) (w : World) (R : Ending → World → Prop) (h : VC_estep2 id dt ar gp gn gc by_ ct hp hn hc wd fx ov my w R) : Calls Try.prog 57 ([Value.agg
    (arrI IntKind.u8 id 32 0 ++
        [Value.int IntKind.i64 dt, Value.int IntKind.i64 ar, Value.slice gp gn gc, Value.int IntKind.i64 by_,
          Value.int IntKind.i64 ct, Value.slice hp hn hc, Value.bool wd, Value.bool fx, Value.bool ov,
          Value.bool my]).toArray] : List Value).toArray w R := by
  have e : execR2 { P := Try.prog, loops := [], pur := pur2, tails := [], joins := [], boxes := [] } Try.f57.results.toList R (Try.f57.body.getD .skip) (initF [Value.agg
    (arrI IntKind.u8 id 32 0 ++
        [Value.int IntKind.i64 dt, Value.int IntKind.i64 ar, Value.slice gp gn gc, Value.int IntKind.i64 by_,
          Value.int IntKind.i64 ct, Value.slice hp hn hc, Value.bool wd, Value.bool fx, Value.bool ov,
          Value.bool
            my]).toArray] (Try.f57.ntmps - ([Value.agg
    (arrI IntKind.u8 id 32 0 ++
        [Value.int IntKind.i64 dt, Value.int IntKind.i64 ar, Value.slice gp gn gc, Value.int IntKind.i64 by_,
          Value.int IntKind.i64 ct, Value.slice hp hn hc, Value.bool wd, Value.bool fx, Value.bool ov,
          Value.bool
            my]).toArray] : List Value).length)) w = VC_estep2 id dt ar gp gn gc by_ ct hp hn hc wd fx ov my w R := by kernel_rfl
  have hb : Try.f57.body = some (Try.f57.body.getD .skip) := by kernel_rfl
  exact calls_of_exec2' (P := Try.prog) (fn := Try.f57) (c := Try.f57.body.getD .skip) (args := [Value.agg
    (arrI IntKind.u8 id 32 0 ++
        [Value.int IntKind.i64 dt, Value.int IntKind.i64 ar, Value.slice gp gn gc, Value.int IntKind.i64 by_,
          Value.int IntKind.i64 ct, Value.slice hp hn hc, Value.bool wd, Value.bool fx, Value.bool ov,
          Value.bool my]).toArray]) (w := w) (R := R) pur2_ok Try.func57 hb e h

def VC_estep3 (id : Nat → Int) (dt : Int) (ar : Int) (gp : Option Addr) (gn : Nat) (gc : Nat) (by_ : Int) (ct : Int) (hp : Option Addr) (hn : Nat) (hc : Nat) (wd : Bool) (fx : Bool) (ov : Bool) (my : Bool) (b : Nat) (o : Nat) (w : World) (R : Ending → World → Prop) : Prop :=
 ∀ (n : Nat),
 ∃ (x : Option Addr),
 (∀ (W : World),
 Loc w.heap.size
 [Blk.mk n 109
 (arrI IntKind.u8 id 32 0 ++ [Value.int IntKind.i64 dt, Value.int IntKind.i64 ar,
 Value.slice gp gn gc, Value.int IntKind.i64 by_, Value.int IntKind.i64 ct, Value.slice hp hn hc, Value.bool wd,
 Value.bool fx, Value.bool ov, Value.bool my])
 2]
 w W →
 W.cell? (Addr.mk b o none) = some (Value.pointer x)) ∧
 nn true x fun (b_1 o_1 : Nat) =>
 ∃ (x : Int),
 (∀ (W : World),
 Loc w.heap.size
 [Blk.mk n 109
 (arrI IntKind.u8 id 32 0 ++ [Value.int IntKind.i64 dt,
 Value.int IntKind.i64 ar, Value.slice gp gn gc, Value.int IntKind.i64 by_, Value.int IntKind.i64 ct,
 Value.slice hp hn hc, Value.bool wd, Value.bool fx, Value.bool ov, Value.bool my])
 2]
 w W →
 W.cell? (Addr.mk b_1 (o_1 + 2) none) = some (Value.int IntKind.i64 x)) ∧
 ∃ (x_1 : Option Addr),
 (∀ (W : World),
 Loc w.heap.size
 [Blk.mk n 109
 (arrI IntKind.u8 id 32 0 ++ [Value.int IntKind.i64 dt,
 Value.int IntKind.i64 ar, Value.slice gp gn gc, Value.int IntKind.i64 by_, Value.int IntKind.i64 ct,
 Value.slice hp hn hc, Value.bool wd, Value.bool fx, Value.bool ov, Value.bool my])
 2]
 w W →
 W.cell? (Addr.mk b o none) = some (Value.pointer x_1)) ∧
 nn true x_1 fun (b o : Nat) =>
 ∃ (x_2 : Int),
 (∀ (W : World),
 Loc w.heap.size
 [Blk.mk n 109
 (arrI IntKind.u8 id 32 0 ++ [Value.int IntKind.i64 dt,
 Value.int IntKind.i64 ar, Value.slice gp gn gc, Value.int IntKind.i64 by_, Value.int IntKind.i64 ct,
 Value.slice hp hn hc, Value.bool wd, Value.bool fx, Value.bool ov, Value.bool my])
 2]
 w W →
 W.cell? (Addr.mk b (o + 3) none) = some (Value.int IntKind.i64 x_2)) ∧
 ∃ (x_3 : Bool),
 gimp (decide (x > x_2))
 (∀ (W : World),
 Loc w.heap.size
 [Blk.mk n 109
 (arrI IntKind.u8 id 32 0 ++ [Value.int IntKind.i64 dt,
 Value.int IntKind.i64 ar, Value.slice gp gn gc, Value.int IntKind.i64 by_, Value.int IntKind.i64 ct,
 Value.slice hp hn hc, Value.bool wd, Value.bool fx, Value.bool ov, Value.bool my])
 2]
 w W →
 W.cell? (Addr.mk n (0 + 41) none) = some (Value.bool x_3)) ∧
 ∀ (W : World),
 Loc w.heap.size
 [Blk.mk n 109
 (arrI IntKind.u8 id 32 0 ++ [Value.int IntKind.i64 dt,
 Value.int IntKind.i64 ar, Value.slice gp gn gc, Value.int IntKind.i64 by_, Value.int IntKind.i64 ct,
 Value.slice hp hn hc, Value.bool wd, Value.bool fx, Value.bool ov, Value.bool my])
 2]
 w W →
 R (Ending.returned (Value.bool (decide (x > x_2) && x_3))) W
theorem vc_estep3 (id : Nat → Int) (dt : Int) (ar : Int) (gp : Option Addr) (gn : Nat) (gc : Nat) (by_ : Int) (ct : Int) (hp : Option Addr) (hn : Nat) (hc : Nat) (wd : Bool) (fx : Bool) (ov : Bool) (my : Bool) (b : Nat) (o : Nat) (w : World) (R : Ending → World → Prop) (h : VC_estep3 id dt ar gp gn gc by_ ct hp hn hc wd fx ov my b o w R) : Calls Try.prog 58 ([Value.agg
    (arrI IntKind.u8 id 32 0 ++
        [Value.int IntKind.i64 dt, Value.int IntKind.i64 ar, Value.slice gp gn gc, Value.int IntKind.i64 by_,
          Value.int IntKind.i64 ct, Value.slice hp hn hc, Value.bool wd, Value.bool fx, Value.bool ov,
          Value.bool my]).toArray,
  Value.pointer (some { block := b, off := o })] : List Value).toArray w R := by
  have e : execR2 { P := Try.prog, loops := [], pur := pur2, tails := [], joins := [], boxes := [] } Try.f58.results.toList R (Try.f58.body.getD .skip) (initF [Value.agg
    (arrI IntKind.u8 id 32 0 ++
        [Value.int IntKind.i64 dt, Value.int IntKind.i64 ar, Value.slice gp gn gc, Value.int IntKind.i64 by_,
          Value.int IntKind.i64 ct, Value.slice hp hn hc, Value.bool wd, Value.bool fx, Value.bool ov,
          Value.bool my]).toArray,
  Value.pointer
    (some
      { block := b,
        off :=
          o })] (Try.f58.ntmps - ([Value.agg
    (arrI IntKind.u8 id 32 0 ++
        [Value.int IntKind.i64 dt, Value.int IntKind.i64 ar, Value.slice gp gn gc, Value.int IntKind.i64 by_,
          Value.int IntKind.i64 ct, Value.slice hp hn hc, Value.bool wd, Value.bool fx, Value.bool ov,
          Value.bool my]).toArray,
  Value.pointer
    (some
      { block := b,
        off :=
          o })] : List Value).length)) w = VC_estep3 id dt ar gp gn gc by_ ct hp hn hc wd fx ov my b o w R := by kernel_rfl
  have hb : Try.f58.body = some (Try.f58.body.getD .skip) := by kernel_rfl
  exact calls_of_exec2' (P := Try.prog) (fn := Try.f58) (c := Try.f58.body.getD .skip) (args := [Value.agg
    (arrI IntKind.u8 id 32 0 ++
        [Value.int IntKind.i64 dt, Value.int IntKind.i64 ar, Value.slice gp gn gc, Value.int IntKind.i64 by_,
          Value.int IntKind.i64 ct, Value.slice hp hn hc, Value.bool wd, Value.bool fx, Value.bool ov,
          Value.bool my]).toArray,
  Value.pointer (some { block := b, off := o })]) (w := w) (R := R) pur2_ok Try.func58 hb e h

end Go.Proofs.Ytmjanmffnblcoaa

/- The formulas of functions by the symbolic evaluator, and that each gives the call's contract. Written by a program (gen.py). No condition. -/
namespace Go.Proofs.Ytmjanmffnblcoaa
set_option maxRecDepth 100000
set_option linter.unusedVariables false

def VC_estep4 (id : Nat → Int) (dt : Int) (ar : Int) (gp : Option Addr) (gn : Nat) (gc : Nat) (by_ : Int) (ct : Int) (hp : Option Addr) (hn : Nat) (hc : Nat) (wd : Bool) (fx : Bool) (ov : Bool) (my : Bool) (b : Nat) (o : Nat) (b1 : Nat) (o1 : Nat) (b2 : Nat) (o2 : Nat) (w : World) (R : Ending → World → Prop) : Prop :=
 ∀ (n : Nat) (W : World),
 Loc w.heap.size
 [Blk.mk n 109
 (arrI IntKind.u8 id 32 0 ++ [Value.int IntKind.i64 dt, Value.int IntKind.i64 ar,
 Value.slice gp gn gc, Value.int IntKind.i64 by_, Value.int IntKind.i64 ct, Value.slice hp hn hc, Value.bool wd,
 Value.bool fx, Value.bool ov, Value.bool my])
 2]
 w W →
 ∃ (S : World → Prop),
 S W ∧
 ∃ (p : Option Addr),
 ∃ (n_1 : Nat),
 ∃ (c : Nat),
 (∀ (w' : World), S w' → w'.cell? (Addr.mk b o none) = some (Value.slice p n_1 c)) ∧
 ∃ (x : Int),
 (∀ (w' : World), S w' → w'.cell? (Addr.mk b1 o1 none) = some (Value.int IntKind.i64 x)) ∧
 nn true p fun (b o : Nat) =>
 (0 ≤ x ∧ x < (↑n_1 : Int)) ∧
 ∃ (x_1 : Value),
 (∀ (w' : World), S w' → w'.cell? (Addr.mk b (o + x.toNat) none) = some x_1) ∧
 ∃ (f : Nat → Int),
 ∃ (x : Int),
 ∃ (x_2 : Int),
 ∃ (p : Option Addr),
 ∃ (n_2 : Nat),
 ∃ (c : Nat),
 ∃ (x_3 : Int),
 ∃ (x_4 : Int),
 ∃ (p_1 : Option Addr),
 ∃ (n_3 : Nat),
 ∃ (c_1 : Nat),
 ∃ (x_5 : Bool),
 ∃ (x_6 : Bool),
 ∃ (x_7 : Bool),
 ∃ (x_8 : Bool),
 (∀ (w' : World),
 S w' →
 AtL w' n 0
 (arrI IntKind.u8 f 32 0 ++ [Value.int IntKind.i64 x,
 Value.int IntKind.i64 x_2, Value.slice p n_2 c, Value.int IntKind.i64 x_3,
 Value.int IntKind.i64 x_4, Value.slice p_1 n_3 c_1, Value.bool x_5, Value.bool x_6,
 Value.bool x_7, Value.bool x_8])) ∧
 ∃ (f_1 : Nat),
 ∃ (a : Array Value),
 ∃ (b : Array Value),
 x_1 = Value.func (Fn.func f_1) a b ∧
 okFn Try.prog f_1 = true ∧
 CallsS Try.prog f_1
 (appA a
 [Value.agg
 (arrI IntKind.u8 f 32 0 ++ [Value.int IntKind.i64 x, Value.int IntKind.i64 x_2, Value.slice p n_2 c,
 Value.int IntKind.i64 x_3, Value.int IntKind.i64 x_4, Value.slice p_1 n_3 c_1,
 Value.bool x_5, Value.bool x_6, Value.bool x_7, Value.bool x_8]).toArray]
 b)
 W fun (e : Ending) (w' : World) =>
 ∃ (x : Bool),
 e = Ending.returned (Value.bool x) ∧
 S w' ∧
 ∃ (x_9 : Option Addr),
 gimp x
 (∀ (w' : World),
 S w' → w'.cell? (Addr.mk b2 o2 none) = some (Value.pointer x_9)) ∧
 ∃ (f : Nat → Int),
 ∃ (x_10 : Int),
 ∃ (x_11 : Int),
 ∃ (p : Option Addr),
 ∃ (n_4 : Nat),
 ∃ (c : Nat),
 ∃ (x_12 : Int),
 ∃ (x_13 : Int),
 ∃ (p_2 : Option Addr),
 ∃ (n_5 : Nat),
 ∃ (c_2 : Nat),
 ∃ (x_14 : Bool),
 ∃ (x_15 : Bool),
 ∃ (x_16 : Bool),
 ∃ (x_17 : Bool),
 gimp x
 (∀ (w' : World),
 S w' →
 AtL w' n 0
 (arrI IntKind.u8 f 32 0 ++ [Value.int IntKind.i64 x_10, Value.int IntKind.i64 x_11,
 Value.slice p n_4 c, Value.int IntKind.i64 x_12,
 Value.int IntKind.i64 x_13, Value.slice p_2 n_5 c_2,
 Value.bool x_14, Value.bool x_15, Value.bool x_16,
 Value.bool x_17])) ∧
 bsp x
 (CallsS Try.prog 61
 #[Value.pointer x_9,
 Value.agg
 (arrI IntKind.u8 f 32 0 ++ [Value.int IntKind.i64 x_10, Value.int IntKind.i64 x_11,
 Value.slice p n_4 c, Value.int IntKind.i64 x_12,
 Value.int IntKind.i64 x_13, Value.slice p_2 n_5 c_2,
 Value.bool x_14, Value.bool x_15, Value.bool x_16,
 Value.bool x_17]).toArray]
 w' fun (e : Ending) (w' : World) =>
 ∃ (x : Bool),
 e = Ending.returned (Value.bool x) ∧
 KeptL [n] W w' ∧
 R (Ending.returned (Value.bool (true && !x))) w')
 (KeptL [n] W w' ∧ R (Ending.returned (Value.bool false)) w')
theorem vc_estep4 (id : Nat → Int) (dt : Int) (ar : Int) (gp : Option Addr) (gn : Nat) (gc : Nat) (by_ : Int) (ct : Int) (hp : Option Addr) (hn : Nat) (hc : Nat) (wd : Bool) (fx : Bool) (ov : Bool) (my : Bool) (b : Nat) (o : Nat) (b1 : Nat) (o1 : Nat) (b2 : Nat) (o2 : Nat) (w : World) (R : Ending → World → Prop) (h : VC_estep4 id dt ar gp gn gc by_ ct hp hn hc wd fx ov my b o b1 o1 b2 o2 w R) : Calls Try.prog 60 ([Value.agg
    (arrI IntKind.u8 id 32 0 ++
        [Value.int IntKind.i64 dt, Value.int IntKind.i64 ar, Value.slice gp gn gc, Value.int IntKind.i64 by_,
          Value.int IntKind.i64 ct, Value.slice hp hn hc, Value.bool wd, Value.bool fx, Value.bool ov,
          Value.bool my]).toArray,
  Value.pointer (some { block := b, off := o }), Value.pointer (some { block := b1, off := o1 }),
  Value.pointer (some { block := b2, off := o2 })] : List Value).toArray w R := by
  have e : execR2 { P := Try.prog, loops := [], pur := pur2, tails := [(1, 5)], joins := [], boxes := [] } Try.f60.results.toList R (Try.f60.body.getD .skip) (initF [Value.agg
    (arrI IntKind.u8 id 32 0 ++
        [Value.int IntKind.i64 dt, Value.int IntKind.i64 ar, Value.slice gp gn gc, Value.int IntKind.i64 by_,
          Value.int IntKind.i64 ct, Value.slice hp hn hc, Value.bool wd, Value.bool fx, Value.bool ov,
          Value.bool my]).toArray,
  Value.pointer (some { block := b, off := o }), Value.pointer (some { block := b1, off := o1 }),
  Value.pointer
    (some
      { block := b2,
        off :=
          o2 })] (Try.f60.ntmps - ([Value.agg
    (arrI IntKind.u8 id 32 0 ++
        [Value.int IntKind.i64 dt, Value.int IntKind.i64 ar, Value.slice gp gn gc, Value.int IntKind.i64 by_,
          Value.int IntKind.i64 ct, Value.slice hp hn hc, Value.bool wd, Value.bool fx, Value.bool ov,
          Value.bool my]).toArray,
  Value.pointer (some { block := b, off := o }), Value.pointer (some { block := b1, off := o1 }),
  Value.pointer
    (some
      { block := b2,
        off :=
          o2 })] : List Value).length)) w = VC_estep4 id dt ar gp gn gc by_ ct hp hn hc wd fx ov my b o b1 o1 b2 o2 w R := by kernel_rfl
  have hb : Try.f60.body = some (Try.f60.body.getD .skip) := by kernel_rfl
  exact calls_of_exec2' (P := Try.prog) (fn := Try.f60) (c := Try.f60.body.getD .skip) (args := [Value.agg
    (arrI IntKind.u8 id 32 0 ++
        [Value.int IntKind.i64 dt, Value.int IntKind.i64 ar, Value.slice gp gn gc, Value.int IntKind.i64 by_,
          Value.int IntKind.i64 ct, Value.slice hp hn hc, Value.bool wd, Value.bool fx, Value.bool ov,
          Value.bool my]).toArray,
  Value.pointer (some { block := b, off := o }), Value.pointer (some { block := b1, off := o1 }),
  Value.pointer (some { block := b2, off := o2 })]) (w := w) (R := R) pur2_ok Try.func60 hb e h

end Go.Proofs.Ytmjanmffnblcoaa

/- Chapter 42: the contracts of protected, of the closures of step, and of step. No condition but sizes. -/
namespace Go.Proofs.Ytmjanmffnblcoaa
open Go.RowKit Go.Sort Go.Maps

theorem nn_at {g : Bool} {b o : Nat} {K : Nat → Nat → Prop} (h : K b o) : nn g (some ⟨b, o, none⟩) K := h
section
variable {w0 w : World} {b : Nat} {p : Option Addr} {c mb : Nat} {tot budget : Int} {l : List CX} {ids : List (List Int)}
/-- A box that holds the planner's address. -/
abbrev PBox (w : World) (n b : Nat) : Prop := w.heap[n]? = some (.cells #[.pointer (some ⟨b, 0, none⟩)] 77 (0, 0))
theorem eprot1_any (h : PlR w0 w b p c mb tot budget l ids) {n : Nat} (hn : PBox w n b) (f : Nat → Int) (hf : ∀ j, 0 ≤ f j ∧ f j ≤ 255) :
    Calls Try.prog 74 #[.agg (arrI .u8 f 32 0).toArray, .pointer (some ⟨n, 0, none⟩)] w fun e w' => e = .returned (.bool (decide (idI f ∈ ids))) ∧ K0 w w' := by
  refine vc_eprot1 f n 0 w _ ?_
  intro n1
  refine ⟨some ⟨b, 0, none⟩, fun W hW => cell_at ((hW.kk rfl).blk hn (fun h => h)) rfl, nn_at ⟨some mb, fun W hW => cell_at ((hW.kk rfl).blk h.blk (fun h => h)) rfl, decide (idI f ∈ ids), fun W hW => ?_, fun W hW => ⟨rfl, hW.kk rfl⟩⟩⟩
  obtain ⟨ml, hm, hi⟩ := (h.k (hW.kk rfl)).map
  have := MapB.look byA_inj hm idKeyed Try.underlying97 (zeroBool W) (idKey (idI_len f) (idI_bd hf)) false
  simp only at this
  by_cases hh : idI f ∈ ids
  · rw [(hi _).1 hh] at this
    rw [decide_eq_true hh]
    exact this
  · rw [(hi _).2 hh] at this
    rw [decide_eq_false hh]
    exact this
def protC (ids : List (List Int)) (y : CX) : Bool := y.fx || y.a.hs.any fun h => decide (idI h ∈ ids)
theorem eprot_any (h : PlR w0 w b p c mb tot budget l ids) (y : CX) (hy : AXR w0 y.a) (hok : ArOK y.a) :
    Calls Try.prog 61 #[.pointer (some ⟨b, 0, none⟩), .agg (cxC y).toArray] w fun e w' => e = .returned (.bool (protC ids y)) ∧ K0 w w' := by
  refine vc_eprot b 0 y.a.id y.a.dt y.a.ar y.a.gp y.a.gs.length y.a.gc y.a.by_ y.a.ct y.a.hp y.a.hs.length y.a.hc y.a.wd y.fx y.ov y.my w _ ?_
  intro n n1
  refine ⟨y.a.id, y.a.dt, y.a.ar, y.a.gp, y.a.gs.length, y.a.gc, y.a.by_, y.a.ct, y.a.hp, y.a.hs.length, y.a.hc, y.a.wd, gimp_intro fun _ W hW => AtL_block (hW.cells 0 rfl) rfl, fun W hW => ?_⟩
  have kW : K0 w W := hW.kk rfl
  have hn := hW.cells 1 rfl
  refine bsp_intro (fun hfx => ?_) (fun hfx => ⟨.refl _ _, ?_, kW⟩)
  · have hfx : y.fx = false := by simpa using hfx
    refine ⟨(eheld_any y.a 74 #[] #[.pointer (some ⟨n, 0, none⟩)] (fun g => decide (idI g ∈ ids)) W (hy.hs.k0 (h.k0.trans kW)) hok.hl (by kernel_rfl) (fun g hg w1 k1 => eprot1_any ((h.k kW).k k1) (k1.blk hn (fun h => h)) g (hok.hs g hg))).mono fun e w2 ⟨he, k2⟩ => ⟨_, he, .of_k0 k2, ?_, kW.trans k2⟩⟩
    unfold protC
    rw [hfx]
  · have hfx : y.fx = true := by simpa using hfx
    unfold protC
    rw [hfx, Bool.true_or]
theorem estep1_any (y : CX) (w : World) : Calls Try.prog 56 #[.agg (cxC y).toArray] w fun e w' => e = .returned (.bool (y.a.wd && y.a.ct == 0)) ∧ K0 w w' := by
  refine vc_estep1 y.a.id y.a.dt y.a.ar y.a.gp y.a.gs.length y.a.gc y.a.by_ y.a.ct y.a.hp y.a.hs.length y.a.hc y.a.wd y.fx y.ov y.my w _ ?_
  intro n
  exact ⟨y.a.ct, gimp_intro fun _ W hW => cell_at (hW.cells 0 rfl) rfl, fun W hW => ⟨rfl, hW.kk rfl⟩⟩
theorem estep2_any (y : CX) (w : World) : Calls Try.prog 57 #[.agg (cxC y).toArray] w fun e w' => e = .returned (.bool y.ov) ∧ K0 w w' := by
  refine vc_estep2 y.a.id y.a.dt y.a.ar y.a.gp y.a.gs.length y.a.gc y.a.by_ y.a.ct y.a.hp y.a.hs.length y.a.hc y.a.wd y.fx y.ov y.my w _ ?_
  intro n W hW
  exact ⟨rfl, hW.kk rfl⟩
theorem estep3_any (h : PlR w0 w b p c mb tot budget l ids) {n : Nat} (hn : PBox w n b) (y : CX) : Calls Try.prog 58 #[.agg (cxC y).toArray, .pointer (some ⟨n, 0, none⟩)] w fun e w' => e = .returned (.bool (decide (budget < tot) && y.my)) ∧ K0 w w' := by
  refine vc_estep3 y.a.id y.a.dt y.a.ar y.a.gp y.a.gs.length y.a.gc y.a.by_ y.a.ct y.a.hp y.a.hs.length y.a.hc y.a.wd y.fx y.ov y.my n 0 w _ ?_
  intro n1
  exact ⟨some ⟨b, 0, none⟩, fun W hW => cell_at ((hW.kk rfl).blk hn (fun h => h)) rfl, nn_at ⟨tot, fun W hW => cell_at ((hW.kk rfl).blk h.blk (fun h => h)) rfl, some ⟨b, 0, none⟩, fun W hW => cell_at ((hW.kk rfl).blk hn (fun h => h)) rfl, nn_at ⟨budget, fun W hW => cell_at ((hW.kk rfl).blk h.blk (fun h => h)) rfl, y.my, gimp_intro fun _ W hW => cell_at (hW.cells 0 rfl) rfl, fun W hW => ⟨rfl, hW.kk rfl⟩⟩⟩⟩
def reasC (tot budget : Int) (k : Nat) (y : CX) : Bool := match k with
  | 1 => y.a.wd && y.a.ct == 0
  | 2 => y.ov
  | _ => decide (budget < tot) && y.my
def goC (tot budget : Int) (ids : List (List Int)) (k : Nat) (y : CX) : Bool := reasC tot budget k y && !protC ids y
/-- What step makes: the box of the receiver, the reasons, their box. -/
structure StE (w : World) (n n2 n3 b : Nat) : Prop where
  bx : PBox w n b
  rs : w.heap[n2]? = some (.cells #[.nilFunc, .func (.func 56) #[] #[], .func (.func 57) #[] #[], .func (.func 58) #[] #[.pointer (some ⟨n, 0, none⟩)]] 115 (0, 0))
  rb : w.heap[n3]? = some (.cells #[.slice (some ⟨n2, 0, none⟩) 4 4] 116 (0, 0))
theorem StE.k {w w' : World} {n n2 n3 b : Nat} (h : StE w n n2 n3 b) (hk : K0 w w') : StE w' n n2 n3 b := ⟨hk.blk h.bx (fun h => h), hk.blk h.rs (fun h => h), hk.blk h.rb (fun h => h)⟩
set_option maxRecDepth 100000 in
theorem estep4_any (h : PlR w0 w b p c mb tot budget l ids) {n n2 n3 n4 k : Nat} (hE : StE w n n2 n3 b) (hk : w.heap[n4]? = some (.cells #[.int .i64 (k : Int)] 3 (0, 0))) (hk1 : 1 ≤ k) (hk3 : k ≤ 3) (y : CX) (hy : AXR w0 y.a) (hok : ArOK y.a) :
    Calls Try.prog 60 #[.agg (cxC y).toArray, .pointer (some ⟨n3, 0, none⟩), .pointer (some ⟨n4, 0, none⟩), .pointer (some ⟨n, 0, none⟩)] w fun e w' => e = .returned (.bool (goC tot budget ids k y)) ∧ K0 w w' := by
  refine vc_estep4 y.a.id y.a.dt y.a.ar y.a.gp y.a.gs.length y.a.gc y.a.by_ y.a.ct y.a.hp y.a.hs.length y.a.hc y.a.wd y.fx y.ov y.my n3 0 n4 0 n 0 w _ ?_
  intro n5 W hW
  have kW : K0 w W := hW.kk rfl
  have hEW := hE.k kW
  have hkW := kW.blk hk (fun h => h)
  have hy5 := hW.cells 0 rfl
  have hpl := h.k kW
  refine ⟨fun wx => K0 W wx, .refl _ _, some ⟨n2, 0, none⟩, 4, 4, fun wx kx => cell_at (kx.blk hEW.rb (fun h => h)) rfl, (k : Int), fun wx kx => cell_at (kx.blk hkW (fun h => h)) rfl, nn_at ?_⟩
  refine ⟨by omega, ?_⟩
  rw [Int.toNat_natCast]
  have tail : ∀ (x : Bool) (w1 : World), x = reasC tot budget k y → K0 W w1 → K0 W w1 ∧ ∃ (x_9 : Option Addr), gimp x (∀ (w' : World), K0 W w' → w'.cell? (Addr.mk n 0 none) = some (.pointer x_9)) ∧ ∃ (f : Nat → Int) (x_10 x_11 : Int) (p : Option Addr) (n_4 c : Nat) (x_12 x_13 : Int) (p_2 : Option Addr) (n_5 c_2 : Nat) (x_14 x_15 x_16 x_17 : Bool), gimp x (∀ (w' : World), K0 W w' → AtL w' n5 0 (arrI .u8 f 32 0 ++ ([.int .i64 x_10, .int .i64 x_11, .slice p n_4 c, .int .i64 x_12, .int .i64 x_13, .slice p_2 n_5 c_2, .bool x_14, .bool x_15, .bool x_16, .bool x_17] : List Value))) ∧
      bsp x (CallsS Try.prog 61 #[.pointer x_9, .agg (arrI .u8 f 32 0 ++ ([.int .i64 x_10, .int .i64 x_11, .slice p n_4 c, .int .i64 x_12, .int .i64 x_13, .slice p_2 n_5 c_2, .bool x_14, .bool x_15, .bool x_16, .bool x_17] : List Value)).toArray] w1 fun (e : Ending) (w' : World) => ∃ (x : Bool), e = .returned (.bool x) ∧ KeptL [n5] W w' ∧ ((Ending.returned (.bool (true && !x)) = .returned (.bool (goC tot budget ids k y))) ∧ K0 w w'))
        (KeptL [n5] W w1 ∧ ((Ending.returned (.bool false) = .returned (.bool (goC tot budget ids k y))) ∧ K0 w w1)) := by
    intro x w1 hx k1
    refine ⟨k1, some ⟨b, 0, none⟩, gimp_intro fun _ wx kx => cell_at (kx.blk hEW.bx (fun h => h)) rfl, y.a.id, y.a.dt, y.a.ar, y.a.gp, y.a.gs.length, y.a.gc, y.a.by_, y.a.ct, y.a.hp, y.a.hs.length, y.a.hc, y.a.wd, y.fx, y.ov, y.my, gimp_intro fun _ wx kx => AtL_block (kx.blk hy5 (fun h => h)) rfl, bsp_intro (fun hxt => ?_) (fun hxf => ⟨.of_k0 k1, ?_, kW.trans k1⟩)⟩
    · refine ⟨(eprot_any (hpl.k k1) y hy hok).mono fun e w2 ⟨he, k2⟩ => ⟨_, he, .of_k0 (k1.trans k2), ?_, (kW.trans k1).trans k2⟩⟩
      unfold goC
      rw [← hx, hxt]
    · unfold goC
      rw [← hx, hxf, Bool.false_and]
  rcases (show k = 1 ∨ k = 2 ∨ k = 3 by omega) with rfl | rfl | rfl
  · refine ⟨_, fun wx kx => cell_at (kx.blk hEW.rs (fun h => h)) rfl, y.a.id, y.a.dt, y.a.ar, y.a.gp, y.a.gs.length, y.a.gc, y.a.by_, y.a.ct, y.a.hp, y.a.hs.length, y.a.hc, y.a.wd, y.fx, y.ov, y.my, fun wx kx => AtL_block (kx.blk hy5 (fun h => h)) rfl, _, #[], #[], rfl, by kernel_rfl, ?_⟩
    exact ⟨(estep1_any y W).mono fun e w1 ⟨he, k1⟩ => ⟨_, he, tail _ w1 rfl k1⟩⟩
  · refine ⟨_, fun wx kx => cell_at (kx.blk hEW.rs (fun h => h)) rfl, y.a.id, y.a.dt, y.a.ar, y.a.gp, y.a.gs.length, y.a.gc, y.a.by_, y.a.ct, y.a.hp, y.a.hs.length, y.a.hc, y.a.wd, y.fx, y.ov, y.my, fun wx kx => AtL_block (kx.blk hy5 (fun h => h)) rfl, _, #[], #[], rfl, by kernel_rfl, ?_⟩
    exact ⟨(estep2_any y W).mono fun e w1 ⟨he, k1⟩ => ⟨_, he, tail _ w1 rfl k1⟩⟩
  · refine ⟨_, fun wx kx => cell_at (kx.blk hEW.rs (fun h => h)) rfl, y.a.id, y.a.dt, y.a.ar, y.a.gp, y.a.gs.length, y.a.gc, y.a.by_, y.a.ct, y.a.hp, y.a.hs.length, y.a.hc, y.a.wd, y.fx, y.ov, y.my, fun wx kx => AtL_block (kx.blk hy5 (fun h => h)) rfl, _, #[], #[.pointer (some ⟨n, 0, none⟩)], rfl, by kernel_rfl, ?_⟩
    exact ⟨(estep3_any hpl hEW.bx y).mono fun e w1 ⟨he, k1⟩ => ⟨_, he, tail _ w1 rfl k1⟩⟩
end

end Go.Proofs.Ytmjanmffnblcoaa

/- Chapter 42: the contract of step. No condition but sizes. -/
namespace Go.Proofs.Ytmjanmffnblcoaa
open Go.RowKit Go.Sort Go.Maps

/-- What step takes: the number and the kind. -/
def pickI (tot budget : Int) (ids : List (List Int)) (l : List CX) : Option (Nat × Nat) := match l.findIdx? (goC tot budget ids 1) with
  | some i => some (i, 1)
  | none => match l.findIdx? (goC tot budget ids 2) with
    | some i => some (i, 2)
    | none => match l.findIdx? (goC tot budget ids 3) with
      | some i => some (i, 3)
      | none => none
theorem pickI_hit {tot budget : Int} {ids : List (List Int)} {l : List CX} {k i : Nat} (h1 : 1 ≤ k) (h3 : k ≤ 3) (hno : ∀ j, 1 ≤ j → j < k → l.findIdx? (goC tot budget ids j) = none) (hi : l.findIdx? (goC tot budget ids k) = some i) : pickI tot budget ids l = some (i, k) := by
  unfold pickI
  rcases (show k = 1 ∨ k = 2 ∨ k = 3 by omega) with rfl | rfl | rfl
  · rw [hi]
  · rw [hno 1 (by omega) (by omega), hi]
  · rw [hno 1 (by omega) (by omega), hno 2 (by omega) (by omega), hi]
theorem pickI_miss {tot budget : Int} {ids : List (List Int)} {l : List CX} (hno : ∀ j, 1 ≤ j → j < 4 → l.findIdx? (goC tot budget ids j) = none) : pickI tot budget ids l = none := by
  unfold pickI
  rw [hno 1 (by omega) (by omega), hno 2 (by omega) (by omega), hno 3 (by omega) (by omega)]
theorem nn_eq {g : Bool} {p : Option Addr} {b o : Nat} {K : Nat → Nat → Prop} (hp : p = some ⟨b, o, none⟩) (h : K b o) : nn g p K := by subst hp; exact h
def without' (ids : List (List Int)) (i : List Int) : List (List Int) := ids.filter fun j => !decide (j = i)
def whyL (f : Nat → Int) (k : Int) : List Value := arrI .u8 f 32 0 ++ ([.int .i64 k] : List Value)

set_option maxRecDepth 100000 in
set_option maxHeartbeats 2000000 in
theorem estep_any {w0 w : World} {b : Nat} {p : Option Addr} {c mb : Nat} {tot budget : Int} {l : List CX} {ids : List (List Int)} (h : PlR w0 w b p c mb tot budget l ids) (hok : ∀ y ∈ l, ArOK y.a) (hl : l.length ≤ 1000) (ht : -1125899906842624 ≤ tot ∧ tot ≤ 1152921504606846976) :
    Calls Try.prog 32 #[.pointer (some ⟨b, 0, none⟩)] w fun e w' =>
      (pickI tot budget ids l = none ∧ e = .returned (.tuple #[.agg (whyL (fun _ => 0) 0).toArray, .bool false]) ∧ K0 w w') ∨
      (∃ (i k : Nat) (y : CX), pickI tot budget ids l = some (i, k) ∧ l[i]? = some y ∧ e = .returned (.tuple #[.agg (whyL y.a.id (k : Int)).toArray, .bool true]) ∧
        PlR w0 w' b p c mb (tot - y.a.by_) budget (l.eraseIdx i) (without' ids (idI y.a.id)) ∧ Kp (fun j => j = b ∨ j = mb ∨ (Value.slice p l.length c).ownBlock = some j) w w') := by
  refine vc_estep b 0 w _ ?_
  intro n n1 W hW n2 n3 W1 hW1 n4 W2 hW2
  have kW : K0 w W := hW.kk rfl
  have kW1 : K0 W W1 := hW1.kk rfl
  have kW2 : K0 W1 W2 := hW2.kk rfl
  have kw2 : K0 w W2 := (kW.trans kW1).trans kW2
  have g1 : w.heap.size ≤ n1 := hW.fresh 0 rfl rfl
  have hbn : PBox W2 n b := kW2.blk (kW1.blk (hW.cells 1 rfl) (fun h => h)) (fun h => h)
  have hE2 : StE W2 n n2 n3 b := ⟨hbn, kW2.blk (hW1.cells 1 rfl) (fun h => h), hW2.cells 1 rfl⟩
  refine ⟨fun vs w' => ∃ (k m : Nat), vs = [.pointer (some ⟨m, 0, none⟩)] ∧ 1 ≤ k ∧ k ≤ 4 ∧ (∀ j, 1 ≤ j → j < k → l.findIdx? (goC tot budget ids j) = none) ∧ w'.heap[m]? = some (.cells #[.int .i64 (k : Int)] 3 (0, 0)) ∧ StE w' n n2 n3 b ∧ w'.heap[n1]? = some (.cells (whyL (fun _ => 0) 0).toArray 44 (0, 0)) ∧ K0 w w',
    fun vs w' => (match vs with | .pointer (some a) :: _ => (match w'.cell? a with | some (.int _ k) => 4 - k.toNat | _ => 0) | _ => 0), ⟨1, n4, rfl, by omega, by omega, (fun j h1 h2 => by omega), hW2.cells 0 rfl, hE2, hW2.cells 2 rfl, kw2⟩, ?_⟩
  rintro x w3 ⟨k, m, hv, hk1, hk4, hno, hbm, hE, hbn1, kw3⟩
  simp only [List.cons.injEq, Value.pointer.injEq, and_true] at hv
  subst hv
  have hpl := h.k kw3
  refine nn_at ⟨(k : Int), cell_at hbm rfl, bsp_intro (fun hk3 => ?_) (fun hk3 => ?_)⟩
  · have hk3 : k ≤ 3 := by simp at hk3; omega
    refine ⟨some ⟨b, 0, none⟩, cell_at hE.bx rfl, nn_at ⟨p, l.length, c, cell_at hpl.blk rfl, ?_⟩⟩
    refine ⟨(eidxC_any l p c 60 #[] #[.pointer (some ⟨n3, 0, none⟩), .pointer (some ⟨m, 0, none⟩), .pointer (some ⟨n, 0, none⟩)] (goC tot budget ids k) w3 (RowA.own hpl.own cxC_length (by decide)) (by omega) (by kernel_rfl) (fun y hy w4 k4 => estep4_any (hpl.k k4) (hE.k k4) (k4.blk hbm (fun h => h)) hk1 hk3 y (h.art y hy) (hok y hy))).mono fun e w4 ⟨he, k4⟩ => ⟨_, he, .of_k0 k4, ?_⟩⟩
    have kw4 := kw3.trans k4
    have hpl4 := h.k kw4
    have hE4 := hE.k k4
    have hbm4 := k4.blk hbm (fun h => h)
    have hbn14 := k4.blk hbn1 (fun h => h)
    cases hf : l.findIdx? (goC tot budget ids k) with
    | none =>
      have e1 : fiR (goC tot budget ids k) l = -1 := by unfold fiR; rw [hf]
      rw [e1]
      refine bsp_intro (fun _ => ?_) (fun h => by simp at h)
      refine nn_at ⟨(k : Int), cell_at hbm4 rfl, fun n5 W5 hW5 => ?_⟩
      have k5 : K0 w4 W5 := hW5.kk rfl
      have hb5 := hW5.cells 0 rfl
      rw [inc64 (by omega)] at hb5
      refine ⟨⟨k + 1, n5, rfl, by omega, by omega, fun j h1 h2 => ?_, hb5, hE4.k k5, k5.blk hbn14 (fun h => h), kw4.trans k5⟩, ?_⟩
      · rcases Nat.lt_or_ge j k with hj | hj
        · exact hno j h1 hj
        · rw [show j = k by omega]; exact hf
      · have c1 : W5.cell? ⟨n5, 0, none⟩ = some (.int .i64 ((k + 1 : Nat) : Int)) := cell_at hb5 rfl
        have c2 : w3.cell? ⟨m, 0, none⟩ = some (.int .i64 (k : Int)) := cell_at hbm rfl
        simp only [c1, c2]
        omega
    | some i =>
      have e1 : fiR (goC tot budget ids k) l = (i : Int) := by unfold fiR; rw [hf]
      have hil : i < l.length := by rw [List.findIdx?_eq_some_iff_getElem] at hf; exact hf.1
      have hpick := pickI_hit hk1 hk3 hno hf
      obtain ⟨y, b', o', hy, hp', hat⟩ := (RowA.own hpl4.own cxC_length (by decide)).get hil
      have hyl := List.mem_of_getElem? hy
      have oky := hok y hyl
      rw [e1]
      refine bsp_intro (fun h => by exfalso; simp at h; omega) (fun _ => ?_)
      refine ⟨some ⟨b, 0, none⟩, cell_at hE4.bx rfl, nn_at ⟨p, l.length, c, cell_at hpl4.blk rfl, ?_⟩⟩
      refine nn_eq hp' ⟨by omega, ?_⟩
      rw [Int.toNat_natCast]
      refine ⟨y.a.id, y.a.dt, y.a.ar, y.a.gp, y.a.gs.length, y.a.gc, y.a.by_, y.a.ct, y.a.hp, y.a.hs.length, y.a.hc, y.a.wd, y.fx, y.ov, y.my, hat, fun n9 W9 hW9 => ?_⟩
      have k9 : K0 w4 W9 := hW9.kk rfl
      have hpl9 := hpl4.k k9
      have hE9 := hE4.k k9
      have hb9 := hpl9.blk
      have hbn19 := k9.blk hbn14 (fun h => h)
      have hbm9 := k9.blk hbm4 (fun h => h)
      have hc9 := hW9.cells 0 rfl
      refine ⟨fun wx => wx.heap[n]? = W9.heap[n]? ∧ wx.heap[b]? = W9.heap[b]?, ⟨rfl, rfl⟩, some ⟨b, 0, none⟩, fun wx hx => cell_at (hx.1.trans hE9.bx) rfl, some ⟨b, 0, none⟩, fun wx hx => cell_at (hx.1.trans hE9.bx) rfl, nn_at ⟨p, l.length, c, fun wx hx => cell_at (hx.2.trans hb9) rfl, ?_⟩⟩
      rw [inc64 (by omega)]
      refine ⟨(edelete_any l p c i W9 hpl9.own hil (by omega)).mono fun e w10 ⟨he, ho10, k10⟩ => ⟨_, _, _, he, ?_⟩⟩
      have nb : ¬ (Value.slice p l.length c).ownBlock = some b := own_not hpl9.own hb9 rfl
      have nn' : ¬ (Value.slice p l.length c).ownBlock = some n := own_not hpl9.own hE9.bx rfl
      have n1r : ¬ (Value.slice p l.length c).ownBlock = some n1 := own_not hpl9.own hbn19 rfl
      have nmr : ¬ (Value.slice p l.length c).ownBlock = some m := own_not hpl9.own hbm9 rfl
      have hb10 := k10.blk hb9 nb
      refine ⟨⟨k10.block n (block_lt hE9.bx) nn', k10.block b (block_lt hb9) nb⟩, nn_at ⟨cell_wr2 hb10 rfl, fun w11 hp11 => ?_⟩⟩
      have hb11 := hp11.block hb10
      have hbx10 := k10.blk hE9.bx nn'
      have nbn : n ≠ b := blk_ne hbx10 hb10 rfl
      have hbx11 := hp11.blk hbx10 nbn
      have n9r : ¬ (Value.slice p l.length c).ownBlock = some n9 := fun e => by
        have h1 := own_lt hpl4.own e
        have h2 := hW9.fresh 0 rfl rfl
        simp only at h2
        omega
      have hc10 := k10.blk hc9 n9r
      have n9b : n9 ≠ b := blk_ne hc10 hb10 rfl
      have hc11 := hp11.blk hc10 n9b
      have hbn110 := k10.blk hbn19 n1r
      have n1b : n1 ≠ b := blk_ne hbn110 hb10 rfl
      have hbn111 := hp11.blk hbn110 n1b
      have hbm10 := k10.blk hbm9 nmr
      have nmb : m ≠ b := blk_ne hbm10 hb10 rfl
      have hbm11 := hp11.blk hbm10 nmb
      have kk11 : Kp (fun j => j = b ∨ j = mb ∨ (Value.slice p l.length c).ownBlock = some j) W9 w11 := (k10.mono fun _ _ h => .inr (.inr h)).trans (hp11.kp.mono fun _ _ h => .inl h)
      obtain ⟨es, cl, hmb⟩ := hpl9.mapAt
      have mbr : ¬ (Value.slice p l.length c).ownBlock = some mb := own_notMap hpl9.own hmb
      have mbb : b ≠ mb := blk_neMap hb9 hmb
      have hmb11 := hp11.blk (k10.blk hmb mbr) mbb.symm
      refine ⟨.of_kp kk11 (fun z hz => ?_), some ⟨b, 0, none⟩, fun W12 hW12 => cell_at ((hW12.kk rfl).blk hbx11 (fun h => h)) rfl, nn_at ⟨some mb, fun W12 hW12 => cell_at ((hW12.kk rfl).blk hb11 (fun h => h)) rfl, fun W12 hW12 => ?_⟩⟩
      · simp at hz
        subst hz
        rintro (e | e | e)
        · exact n9b e
        · exact blk_neMap hc9 hmb e
        · exact n9r e
      have k12 : K0 w11 W12 := hW12.kk rfl
      obtain ⟨ml, hm, hmi⟩ := hpl9.map
      have hm12 := ((hm.kp k10 mbr).kp hp11.kp mbb.symm).kp k12 (fun h => h)
      obtain ⟨w13, hbl, hm13, k13⟩ := MapB.del byA_inj hm12 idKeyed Try.underlying97 (idKey (idI_len y.a.id) (idI_bd oky.id))
      have hmb12 := k12.blk hmb11 (fun h => h)
      have hb12 := k12.blk hb11 (fun h => h)
      have hb13 := k13.blk hb12 mbb
      have hbx13 := k13.blk (k12.blk hbx11 (fun h => h)) (blk_neMap (k12.blk hbx11 (fun h => h)) hmb12)
      have hc12 := hW12.cells 0 rfl
      have n9m : n9 ≠ mb := blk_neMap hc12 hmb12
      refine ⟨w13, hbl, .of_kp k13 (fun z hz => by simp at hz; subst hz; exact n9m), some ⟨b, 0, none⟩, fun W14 hW14 => cell_at ((hW14.kk rfl).blk hbx13 (fun h => h)) rfl, nn_at ⟨tot, fun W14 hW14 => cell_at ((hW14.kk rfl).blk hb13 (fun h => h)) rfl, nn_at (fun W14 hW14 => ?_)⟩⟩
      have k14 : K0 w13 W14 := hW14.kk rfl
      have hb14 := k14.blk hb13 (fun h => h)
      have hc14 := hW14.cells 0 rfl
      refine ⟨cell_wr2 hb14 rfl, fun w15 hp15 => ⟨put_kept hp15 (fun z hz => by simp at hz; subst hz; exact blk_ne hc14 hb14 rfl), nn_at ?_⟩⟩
      have hbm12 := k12.blk hbm11 (fun h => h)
      have hbm14 := k14.blk (k13.blk hbm12 (blk_neMap hbm12 hmb12)) (fun h => h)
      have hbm15 := hp15.blk hbm14 nmb
      have hbn112 := k12.blk hbn111 (fun h => h)
      have hbn114 := k14.blk (k13.blk hbn112 (blk_neMap hbn112 hmb12)) (fun h => h)
      have hbn115 := hp15.blk hbn114 n1b
      have hb15 := hp15.block hb14
      have hc15 := hp15.blk hc14 (blk_ne hc14 hb14 rfl)
      refine ⟨(k : Int), cell_at hbm15 rfl, WrL_block hbn115 (Nat.le_refl 33), fun w16 hp16 => ?_⟩
      have hn91 : n9 ≠ n1 := blk_ne hc15 hbn115 rfl
      have kAll : Kp (fun j => j = b ∨ j = mb ∨ (Value.slice p l.length c).ownBlock = some j) w w16 := by
        have a1 : Kp (fun j => j = b ∨ j = mb ∨ (Value.slice p l.length c).ownBlock = some j) w W9 := (kw4.trans k9).mono fun _ _ h => h.elim
        have a2 := a1.trans kk11
        have a3 := a2.trans (k12.mono fun _ _ h => h.elim)
        have a4 := a3.trans (k13.mono fun _ _ h => .inr (.inl h))
        have a5 := a4.trans (k14.mono fun _ _ h => h.elim)
        have a6 := a5.trans (hp15.kp.mono fun _ _ h => .inl h)
        exact Kp.fresh a6 hp16.kp (fun j hj e => by omega)
      refine ⟨put_kept hp16 (fun z hz => by simp at hz; subst hz; exact hn91), y.a.id, (k : Int), AtL_block (hp16.full hbn115 rfl) rfl, .inr ⟨i, k, y, hpick, hy, rfl, ?_, ?_⟩⟩
      -- the planner as it is now
      · have hel : (l.eraseIdx i).length = l.length - 1 := List.length_eraseIdx_of_lt hil
        have hb16 := hp16.blk hb15 n1b.symm
        have by_ := oky.by_
        have ho11 := owns_kp ho10 hp11.kp (fun j hj e => by subst e; exact own_not ho10 hb10 rfl hj)
        have ho12 := owns_kp ho11 k12 (fun _ _ h => h)
        have ho13 := owns_kp ho12 k13 (fun j hj e => by subst e; exact own_notMap ho12 hmb12 hj)
        have ho14 := owns_kp ho13 k14 (fun _ _ h => h)
        have ho15 := owns_kp ho14 hp15.kp (fun j hj e => by subst e; exact own_not ho14 hb14 rfl hj)
        have ho16 := owns_kp ho15 hp16.kp (fun j hj e => by subst e; exact own_not ho15 hbn115 rfl hj)
        have hmb15 : n1 ≠ mb := blk_neMap hbn112 hmb12
        have hm16 := ((hm13.kp k14 (fun h => h)).kp hp15.kp mbb.symm).kp hp16.kp hmb15.symm
        refine ⟨?_, ho16, ⟨_, hm16, fun j => ?_⟩, fun z hz => h.art z (List.mem_of_mem_eraseIdx hz), ?_, h.hb, h.hmb⟩
        · have ew : IntKind.i64.wrap (tot - y.a.by_) = tot - y.a.by_ := wr64 (by omega) (by omega)
          rw [ew] at hb16
          exact hb16
        · rw [aget_adel]
          obtain ⟨m1, m2⟩ := hmi j
          unfold without'
          refine ⟨fun hj => ?_, fun hj => ?_⟩
          · obtain ⟨h1, h2⟩ := List.mem_filter.1 hj
            have h2 : ¬ j = idI y.a.id := by simpa using h2
            rw [if_neg (fun e => h2 e.symm)]
            exact m1 h1
          · by_cases e : idI y.a.id = j
            · rw [if_pos e]
            · rw [if_neg e]
              exact m2 fun h' => hj (List.mem_filter.2 ⟨h', by simpa using fun e' => e e'.symm⟩)
        · exact Kp.fresh h.k0 kAll (fun j hj e => by
            rcases e with e | e | e
            · have := h.hb; omega
            · have := h.hmb; omega
            · have := own_ge h.own e; omega)
      · exact kAll
  · have hk : k = 4 := by simp at hk3; omega
    subst hk
    refine ⟨WrL_block hbn1 (Nat.le_refl 33), fun w4 hp => ⟨.of_kp hp.kp (fun z hz => by cases hz), fun _ => 0, 0, AtL_block (hp.full hbn1 rfl) rfl, .inl ⟨pickI_miss hno, rfl, put_k0 kw3 hp g1⟩⟩⟩

end Go.Proofs.Ytmjanmffnblcoaa

/- The formulas of functions by the symbolic evaluator, and that each gives the call's contract. Written by a program (gen.py). No condition. -/
namespace Go.Proofs.Ytmjanmffnblcoaa
set_option maxRecDepth 100000
set_option linter.unusedVariables false

def VC_eplan (p : Option Addr) (n : Nat) (c : Nat) (q : Option Addr) (k : Nat) (d : Nat) (now : Int) (budget : Int) (w : World) (R : Ending → World → Prop) : Prop :=
 CallsS Try.prog 28 #[Value.slice p n c] w fun (e : Ending) (w' : World) =>
 ∃ (p : Option Addr),
 ∃ (n : Nat),
 ∃ (c : Nat),
 ∃ (p_1 : Option Addr),
 ∃ (n_1 : Nat),
 ∃ (c_1 : Nat),
 ∃ (x : Int),
 e =
 Ending.returned
 (Value.tuple #[Value.agg #[Value.slice p n c, Value.slice p_1 n_1 c_1], Value.int IntKind.i64 x]) ∧
 KeptL [] w w' ∧
 ∀ (n_2 : Nat),
 bsp (x != 0)
 (∀ (W : World),
 Loc w.heap.size [Blk.mk n_2 72 [Value.slice p n c, Value.slice p_1 n_1 c_1] (wrM 2)] w' W →
 R (Ending.returned (Value.tuple #[Value.slice none 0 0, Value.int IntKind.i64 x])) W)
 (bsp (!minB now || decide (budget < 0))
 (∀ (W : World),
 Loc w.heap.size [Blk.mk n_2 72 [Value.slice p n c, Value.slice p_1 n_1 c_1] (wrM 2)] w' W →
 R (Ending.returned (Value.tuple #[Value.slice none 0 0, Value.int IntKind.i64 2])) W)
 (∀ (W : World),
 Loc w.heap.size [Blk.mk n_2 72 [Value.slice p n c, Value.slice p_1 n_1 c_1] (wrM 2)] w' W →
 CallsS Try.prog 30 #[Value.slice q k d] W fun (e : Ending) (w' : World) =>
 ∃ (x : Int),
 e = Ending.returned (Value.int IntKind.i64 x) ∧
 KeptL [n_2] W w' ∧
 bsp (x != 0) (R (Ending.returned (Value.tuple #[Value.slice none 0 0, Value.int IntKind.i64 x])) w')
 (CallsS Try.prog 31
 #[Value.agg #[Value.slice p n c, Value.slice p_1 n_1 c_1], Value.slice q k d,
 Value.int IntKind.i64 now, Value.int IntKind.i64 budget]
 w' fun (e : Ending) (w'_1 : World) =>
 ∃ (x : Option Addr),
 e = Ending.returned (Value.pointer x) ∧
 KeptL [n_2] w' w'_1 ∧
 ∃ (I : List Value → World → Prop),
 ∃ (m : List Value → World → Nat),
 I [Value.slice none 0 0] w'_1 ∧
 ∀ (p_2 : Option Addr) (n_3 c_2 : Nat) (w' : World),
 I [Value.slice p_2 n_3 c_2] w' →
 Loc w.heap.size [Blk.mk n_2 72 [Value.slice p n c, Value.slice p_1 n_1 c_1] 0] w' w' →
 CallsS Try.prog 32 #[Value.pointer x] w' fun (e : Ending) (w'_2 : World) =>
 ∃ (f : Nat → Int),
 ∃ (x : Int),
 ∃ (x_1 : Bool),
 e =
 Ending.returned
 (Value.tuple
 #[Value.agg
 (arrI IntKind.u8 f 32 0 ++ [Value.int IntKind.i64 x]).toArray,
 Value.bool x_1]) ∧
 KeptL [n_2] w' w'_2 ∧
 ∀ (n_4 : Nat),
 bsp (!x_1)
 (∀ (W : World),
 Loc w.heap.size
 [Blk.mk n_2 72 [Value.slice p n c, Value.slice p_1 n_1 c_1] 0,
 Blk.mk n_4 44
 (arrI IntKind.u8 f 32 0 ++ [Value.int IntKind.i64 x])
 (wrM 2)]
 w'_2 W →
 R
 (Ending.returned
 (Value.tuple #[Value.slice p_2 n_3 c_2, Value.int IntKind.i64 0]))
 W)
 (∀ (n_5 : Nat) (W : World),
 Loc w.heap.size
 [Blk.mk n_2 72 [Value.slice p n c, Value.slice p_1 n_1 c_1] 0,
 Blk.mk n_5 44
 (arrI IntKind.u8 f 32 0 ++ [Value.int IntKind.i64 x])
 2,
 Blk.mk n_4 44
 (arrI IntKind.u8 f 32 0 ++ [Value.int IntKind.i64 x])
 (wrM 2)]
 w'_2 W →
 ∃ (base : Nat),
 ∃ (xs : List Value),
 W.ownsRow base 44 33 (Value.slice p_2 n_3 c_2) n_3 xs ∧
 n_3 + 1 ≤ 9223372036854775807 ∧
 (n_3 + 1) * 40 ≤ 140737488355328 ∧
 base ≤ W.heap.size ∧
 ∀ (p' : Option Addr) (c' : Nat) (w'_3 : World),
 w'_3.ownsRow base 44 33 (Value.slice p' (n_3 + 1) c') (n_3 + 1)
 (xs ++
 (arrI IntKind.u8 f 32 0 ++ [Value.int IntKind.i64 x])) →
 W.grownBy w'_3 (Value.slice p_2 n_3 c_2).ownBlock →
 (n_3 + 1 ≤ c_2 → p' = p_2 ∧ c' = c_2) →
 KeptL [n_2, n_4] W w'_3 ∧
 I [Value.slice p' (n_3 + 1) c'] w'_3 ∧
 m [Value.slice p' (n_3 + 1) c'] w'_3 <
 m [Value.slice p_2 n_3 c_2] w'))))
theorem vc_eplan (p : Option Addr) (n : Nat) (c : Nat) (q : Option Addr) (k : Nat) (d : Nat) (now : Int) (budget : Int) (w : World) (R : Ending → World → Prop) (h : VC_eplan p n c q k d now budget w R) : Calls Try.prog 14 ([Value.slice
    p n c,
  Value.slice q k d, Value.int IntKind.i64 now, Value.int IntKind.i64 budget] : List Value).toArray w R := by
  have e : execR2 { P := Try.prog, loops := [(11, [(14, Ck.slice)])], pur := pur2, tails := [], joins := [], boxes := [] } Try.f14.results.toList R (Try.f14.body.getD .skip) (initF [Value.slice
    p n c,
  Value.slice q k d, Value.int IntKind.i64 now,
  Value.int IntKind.i64
    budget] (Try.f14.ntmps - ([Value.slice p n c, Value.slice q k d, Value.int IntKind.i64 now,
  Value.int IntKind.i64 budget] : List Value).length)) w = VC_eplan p n c q k d now budget w R := by kernel_rfl
  have hb : Try.f14.body = some (Try.f14.body.getD .skip) := by kernel_rfl
  exact calls_of_exec2' (P := Try.prog) (fn := Try.f14) (c := Try.f14.body.getD .skip) (args := [Value.slice p n c,
  Value.slice q k d, Value.int IntKind.i64 now,
  Value.int IntKind.i64 budget]) (w := w) (R := R) pur2_ok Try.func14 hb e h

def VC_eafter (p : Option Addr) (n : Nat) (c : Nat) (q : Option Addr) (k : Nat) (d : Nat) (w : World) (R : Ending → World → Prop) : Prop :=
 ∀ (n_1 : Nat) (w1 : World),
 NewB w (Obj.map #[] 0) n_1 w1 →
 KeptL [] w w1 ∧
 ∃ (I : List Value → World → Prop),
 ∃ (m : List Value → World → Nat),
 I [Value.int IntKind.i64 0] w1 ∧
 ∀ (x : Int) (w' : World),
 I [Value.int IntKind.i64 x] w' →
 bsp (decide (x < (↑k : Int)))
 (nn true q fun (b o : Nat) =>
 (0 ≤ x ∧ x < (↑k : Int)) ∧
 ∃ (f : Nat → Int),
 ∃ (x_1 : Int),
 AtL w' b (o + x.toNat * 33)
 (arrI IntKind.u8 f 32 0 ++ [Value.int IntKind.i64 x_1]) ∧
 ∀ (n : Nat) (W : World),
 Loc w.heap.size
 [Blk.mk n 44
 (arrI IntKind.u8 f 32 0 ++ [Value.int IntKind.i64 x_1])
 (wrM 2)]
 w' W →
 ∃ (w1 : World),
 UpdP Try.prog 97 (Value.map (some n_1))
 (Value.agg
 (arrI IntKind.u8 f 32 0).toArray)
 (Value.bool true) W w1 ∧
 KeptL [n] W w1 ∧
 I [Value.int IntKind.i64 (IntKind.i64.wrap (x + 1))] w1 ∧
 m [Value.int IntKind.i64 (IntKind.i64.wrap (x + 1))] w1 < m [Value.int IntKind.i64 x] w')
 (∃ (I : List Value → World → Prop),
 ∃ (m : List Value → World → Nat),
 I [Value.int IntKind.i64 0, Value.slice none 0 0] w' ∧
 ∀ (x : Int) (p_1 : Option Addr) (n_2 c : Nat) (w' : World),
 I [Value.int IntKind.i64 x, Value.slice p_1 n_2 c] w' →
 bsp (decide (x < (↑n : Int)))
 (nn true p fun (b o : Nat) =>
 (0 ≤ x ∧ x < (↑n : Int)) ∧
 ∃ (f : Nat → Int),
 ∃ (x_1 : Int),
 ∃ (x_2 : Int),
 ∃ (p : Option Addr),
 ∃ (n : Nat),
 ∃ (c_1 : Nat),
 ∃ (x_3 : Int),
 ∃ (x_4 : Int),
 ∃ (p_2 : Option Addr),
 ∃ (n_3 : Nat),
 ∃ (c_2 : Nat),
 ∃ (x_5 : Bool),
 AtL w' b (o + x.toNat * 39)
 (arrI IntKind.u8 f 32 0 ++ [Value.int IntKind.i64 x_1,
 Value.int IntKind.i64 x_2, Value.slice p n c_1, Value.int IntKind.i64 x_3,
 Value.int IntKind.i64 x_4, Value.slice p_2 n_3 c_2, Value.bool x_5]) ∧
 ∀ (n_4 : Nat),
 ∃ (x_6 : Bool),
 (∀ (W : World),
 Loc w.heap.size
 [Blk.mk n_4 42
 (arrI IntKind.u8 f 32 0 ++ [Value.int IntKind.i64 x_1, Value.int IntKind.i64 x_2, Value.slice p n c_1,
 Value.int IntKind.i64 x_3, Value.int IntKind.i64 x_4, Value.slice p_2 n_3 c_2,
 Value.bool x_5])
 (wrM 2)]
 w' W →
 LookP Try.prog 97 (Value.map (some n_1))
 (Value.agg
 (arrI IntKind.u8 f 32 0).toArray)
 false (Value.bool x_6) W) ∧
 bsp (!x_6)
 (∀ (W : World),
 Loc w.heap.size
 [Blk.mk n_4 42
 (arrI IntKind.u8 f 32 0 ++ [Value.int IntKind.i64 x_1, Value.int IntKind.i64 x_2, Value.slice p n c_1,
 Value.int IntKind.i64 x_3, Value.int IntKind.i64 x_4, Value.slice p_2 n_3 c_2,
 Value.bool x_5])
 (wrM 2)]
 w' W →
 ∃ (S : World → Prop),
 S W ∧
 ∃ (p : Option Addr),
 ∃ (n : Nat),
 ∃ (c_3 : Nat),
 (∀ (w' : World),
 S w' → w'.cell? (Addr.mk n_4 (0 + 34) none) = some (Value.slice p n c_3)) ∧
 ∃ (p_3 : Option Addr),
 ∃ (n_5 : Nat),
 ∃ (c_4 : Nat),
 (∀ (w' : World),
 S w' →
 w'.cell? (Addr.mk n_4 (0 + 37) none) = some (Value.slice p_3 n_5 c_4)) ∧
 CallsS Try.prog 43 #[Value.slice p n c_3] W
 fun (e : Ending) (w'_1 : World) =>
 ∃ (p : Option Addr),
 ∃ (n : Nat),
 ∃ (c_5 : Nat),
 e = Ending.returned (Value.slice p n c_5) ∧
 S w'_1 ∧
 CallsS Try.prog 44 #[Value.slice p_3 n_5 c_4] w'_1
 fun (e : Ending) (w'_2 : World) =>
 ∃ (p_4 : Option Addr),
 ∃ (n_6 : Nat),
 ∃ (c_6 : Nat),
 e = Ending.returned (Value.slice p_4 n_6 c_6) ∧
 ((∃ (u : Value),
 w'_2.cell? (Addr.mk n_4 (0 + 34) none) = some u) ∧
 w'_2.frozen? (Addr.mk n_4 (0 + 34) none) = false) ∧
 ∀ (w1 : World),
 PutB w'_2 n_4 (0 + 34) [Value.slice p n c_5] w1 →
 ((∃ (u : Value),
 w1.cell? (Addr.mk n_4 (0 + 37) none) = some u) ∧
 w1.frozen? (Addr.mk n_4 (0 + 37) none) = false) ∧
 ∀ (w1_1 : World),
 PutB w1 n_4 (0 + 37) [Value.slice p_4 n_6 c_6] w1_1 →
 KeptL [] W w1_1 ∧
 ∃ (f : Nat → Int),
 ∃ (x_7 : Int),
 ∃ (x_8 : Int),
 ∃ (p : Option Addr),
 ∃ (n : Nat),
 ∃ (c_7 : Nat),
 ∃ (x_9 : Int),
 ∃ (x_10 : Int),
 ∃ (p_5 : Option Addr),
 ∃ (n_7 : Nat),
 ∃ (c_8 : Nat),
 ∃ (x_11 : Bool),
 AtL w1_1 n_4 0
 (arrI IntKind.u8 f 32 0 ++ [Value.int IntKind.i64 x_7,
 Value.int IntKind.i64 x_8,
 Value.slice p n c_7,
 Value.int IntKind.i64 x_9,
 Value.int IntKind.i64 x_10,
 Value.slice p_5 n_7 c_8,
 Value.bool x_11]) ∧
 ∀ (n_8 : Nat) (W : World),
 Loc w.heap.size
 [Blk.mk n_8 42
 (arrI IntKind.u8 f 32 0 ++ [Value.int IntKind.i64 x_7,
 Value.int IntKind.i64 x_8,
 Value.slice p n c_7,
 Value.int IntKind.i64 x_9,
 Value.int IntKind.i64 x_10,
 Value.slice p_5 n_7 c_8,
 Value.bool x_11])
 2]
 w1_1 W →
 ∃ (base : Nat),
 ∃ (xs : List Value),
 W.ownsRow base 42 39
 (Value.slice p_1 n_2 c) n_2 xs ∧
 n_2 + 1 ≤ 9223372036854775807 ∧
 (n_2 + 1) * 120 ≤ 140737488355328 ∧
 base ≤ W.heap.size ∧
 ∀ (p' : Option Addr) (c' : Nat)
 (w'_3 : World),
 w'_3.ownsRow base 42 39
 (Value.slice p' (n_2 + 1) c')
 (n_2 + 1)
 (xs ++
 (arrI IntKind.u8 f 32 0 ++ [Value.int IntKind.i64 x_7,
 Value.int IntKind.i64 x_8,
 Value.slice p n c_7,
 Value.int IntKind.i64 x_9,
 Value.int IntKind.i64 x_10,
 Value.slice p_5 n_7 c_8,
 Value.bool x_11])) →
 W.grownBy w'_3
 (Value.slice p_1 n_2
 c).ownBlock →
 (n_2 + 1 ≤ c →
 p' = p_1 ∧ c' = c) →
 KeptL [] W w'_3 ∧
 I
 [Value.int IntKind.i64
 (IntKind.i64.wrap
 (x + 1)),
 Value.slice p' (n_2 + 1)
 c']
 w'_3 ∧
 m
 [Value.int IntKind.i64
 (IntKind.i64.wrap
 (x + 1)),
 Value.slice p' (n_2 + 1)
 c']
 w'_3 <
 m
 [Value.int IntKind.i64 x,
 Value.slice p_1 n_2 c]
 w')
 (∀ (W : World),
 Loc w.heap.size
 [Blk.mk n_4 42
 (arrI IntKind.u8 f 32 0 ++ [Value.int IntKind.i64 x_1, Value.int IntKind.i64 x_2, Value.slice p n c_1,
 Value.int IntKind.i64 x_3, Value.int IntKind.i64 x_4, Value.slice p_2 n_3 c_2,
 Value.bool x_5])
 (wrM 2)]
 w' W →
 I [Value.int IntKind.i64 (IntKind.i64.wrap (x + 1)), Value.slice p_1 n_2 c] W ∧
 m [Value.int IntKind.i64 (IntKind.i64.wrap (x + 1)), Value.slice p_1 n_2 c] W <
 m [Value.int IntKind.i64 x, Value.slice p_1 n_2 c] w'))
 (R (Ending.returned (Value.slice p_1 n_2 c)) w'))
theorem vc_eafter (p : Option Addr) (n : Nat) (c : Nat) (q : Option Addr) (k : Nat) (d : Nat) (w : World) (R : Ending → World → Prop) (h : VC_eafter p n c q k d w R) : Calls Try.prog 25 ([Value.slice
    p n c,
  Value.slice q k d] : List Value).toArray w R := by
  have e : execR2 { P := Try.prog, loops := [(3, [(14, Ck.int IntKind.i64)]), (9, [(24, Ck.int IntKind.i64), (8, Ck.slice)])], pur := pur2, tails := [(12, 2)], joins := [], boxes := [] } Try.f25.results.toList R (Try.f25.body.getD .skip) (initF [Value.slice
    p n c,
  Value.slice q k
    d] (Try.f25.ntmps - ([Value.slice p n c,
  Value.slice q k d] : List Value).length)) w = VC_eafter p n c q k d w R := by kernel_rfl
  have hb : Try.f25.body = some (Try.f25.body.getD .skip) := by kernel_rfl
  exact calls_of_exec2' (P := Try.prog) (fn := Try.f25) (c := Try.f25.body.getD .skip) (args := [Value.slice p n c,
  Value.slice q k d]) (w := w) (R := R) pur2_ok Try.func25 hb e h

end Go.Proofs.Ytmjanmffnblcoaa

/- Chapter 42: what step takes is what the plan takes (plain), and the contract of Plan. No condition but sizes. -/
namespace Go.Proofs.Ytmjanmffnblcoaa
open Go.RowKit Go.Sort Go.Maps

def plX (y : CX) : Ar := y.a.pl
theorem fidx_find {α : Type} {P : α → Bool} : ∀ (l : List α), (match l.findIdx? P with | some i => l[i]? | none => none) = l.find? P
  | [] => rfl
  | x :: l => by
    rw [List.findIdx?_cons, List.find?_cons]
    cases h : P x with
    | true => rfl
    | false =>
      have ih := fidx_find (P := P) l
      cases hf : l.findIdx? P with
      | none => rw [hf] at ih; simpa using ih
      | some i => rw [hf] at ih; simpa using ih
section
variable {L : List Rl} {now budget : Int} {cur : List CX} {ids : List (List Int)}
theorem goC_goB (hmk : ∀ y ∈ cur, y = mkC L now y.a) (hids : ∀ i, i ∈ ids ↔ i ∈ cur.map idX) {y : CX} (hy : y ∈ cur) {k : Nat} (hk : k = 1 ∨ k = 2 ∨ k = 3) : goC (totS (cur.map plX)) budget ids k y = goB L now budget (cur.map plX) k (plX y) := by
  have e := hmk y hy
  have e1 : y.fx = fixB now y.a.pl := by rw [e]; rfl
  have e2 : y.ov = overB L now y.a.pl := by rw [e]; rfl
  have e3 : y.my = mayB L now y.a.pl := by rw [e]; rfl
  have hp : protC ids y = protB now (cur.map plX) (plX y) := by
    unfold protC protB
    rw [e1]
    congr 1
    show _ = (y.a.hs.map idI).any _
    rw [List.any_map]
    congr 1
    funext h
    show decide (idI h ∈ ids) = hereB (cur.map plX) (idI h)
    unfold hereB
    rw [List.any_map, Bool.eq_iff_iff, decide_eq_true_iff, hids, List.any_eq_true]
    constructor
    · intro hm
      obtain ⟨z, hz, he⟩ := List.mem_map.1 hm
      exact ⟨z, hz, decide_eq_true he⟩
    · rintro ⟨z, hz, he⟩
      exact List.mem_map.2 ⟨z, hz, of_decide_eq_true he⟩
  unfold goC goB
  rw [hp]
  congr 1
  rcases hk with rfl | rfl | rfl
  · rfl
  · exact e2
  · show (decide (budget < totS (cur.map plX)) && y.my) = (decide (budget < totS (cur.map plX)) && mayB L now y.a.pl)
    rw [e3]
theorem find_congr {α : Type} {P Q : α → Bool} : ∀ {l : List α}, (∀ x ∈ l, P x = Q x) → l.find? P = l.find? Q
  | [], _ => rfl
  | x :: l, h => by rw [List.find?_cons, List.find?_cons, h x (by simp), find_congr (fun y hy => h y (by simp [hy]))]
theorem pickI_S (hmk : ∀ y ∈ cur, y = mkC L now y.a) (hids : ∀ i, i ∈ ids ↔ i ∈ cur.map idX) :
    match pickI (totS (cur.map plX)) budget ids cur with
    | none => pickS L now budget (cur.map plX) = none
    | some (i, k) => ∃ y, cur[i]? = some y ∧ pickS L now budget (cur.map plX) = some (plX y, k) := by
  have key : ∀ k, (k = 1 ∨ k = 2 ∨ k = 3) → (cur.map plX).find? (goB L now budget (cur.map plX) k) = (match cur.findIdx? (goC (totS (cur.map plX)) budget ids k) with | some i => cur[i]? | none => none).map plX := fun k hk => by
    rw [fidx_find, List.find?_map, find_congr (P := goC (totS (cur.map plX)) budget ids k) (fun y hy => goC_goB hmk hids hy hk)]
    rfl
  unfold pickI pickS
  rw [key 1 (.inl rfl), key 2 (.inr (.inl rfl)), key 3 (.inr (.inr rfl))]
  have some_at : ∀ {k i : Nat}, cur.findIdx? (goC (totS (cur.map plX)) budget ids k) = some i → ∃ y, cur[i]? = some y := fun {k i} h => by
    rw [List.findIdx?_eq_some_iff_getElem] at h
    exact ⟨_, List.getElem?_eq_getElem h.1⟩
  cases h1 : cur.findIdx? (goC (totS (cur.map plX)) budget ids 1) with
  | some i =>
    obtain ⟨y, hy⟩ := some_at h1
    simp only [hy]
    exact ⟨y, rfl, rfl⟩
  | none =>
    cases h2 : cur.findIdx? (goC (totS (cur.map plX)) budget ids 2) with
    | some i =>
      obtain ⟨y, hy⟩ := some_at h2
      simp only [hy]
      exact ⟨y, rfl, rfl⟩
    | none =>
      cases h3 : cur.findIdx? (goC (totS (cur.map plX)) budget ids 3) with
      | some i =>
        obtain ⟨y, hy⟩ := some_at h3
        simp only [hy]
        exact ⟨y, rfl, rfl⟩
      | none => rfl
theorem erase_without : ∀ {l : List CX} {i : Nat} {y : CX}, (l.map idX).Nodup → l[i]? = some y → without (l.map plX) (idX y) = (l.eraseIdx i).map plX
  | [], i, y, _, h => by simp at h
  | x :: l, 0, y, hd, h => by
    simp at h
    subst h
    rw [List.map_cons, List.nodup_cons] at hd
    unfold without
    rw [List.map_cons, List.filter_cons, if_neg (by show ¬ (!decide ((plX x).id = idX x)) = true; simp [plX, idX, AX.pl])]
    show _ = l.map plX
    refine List.filter_eq_self.2 fun b hb => ?_
    obtain ⟨z, hz, rfl⟩ := List.mem_map.1 hb
    have : ¬ (plX z).id = idX x := fun e => hd.1 (List.mem_map.2 ⟨z, hz, e⟩)
    simp [this]
  | x :: l, i + 1, y, hd, h => by
    have h' : l[i]? = some y := by simpa using h
    rw [List.map_cons, List.nodup_cons] at hd
    have hne : ¬ (plX x).id = idX y := fun e => hd.1 (List.mem_map.2 ⟨y, List.mem_of_getElem? h', e.symm⟩)
    have ih := erase_without hd.2 h'
    unfold without at ih ⊢
    rw [List.map_cons, List.filter_cons, if_pos (by simp [hne]), ih]
    rfl
theorem totS_erase : ∀ {l : List CX} {i : Nat} {y : CX}, l[i]? = some y → totS ((l.eraseIdx i).map plX) = totS (l.map plX) - y.a.by_
  | [], i, y, h => by simp at h
  | x :: l, 0, y, h => by
    simp at h; subst h
    show totS (l.map plX) = totS (plX x :: l.map plX) - x.a.by_
    unfold totS
    rw [List.map_cons, List.sum_cons]
    show _ = x.a.by_ + _ - x.a.by_
    omega
  | x :: l, i + 1, y, h => by
    have ih := totS_erase (l := l) (i := i) (y := y) (by simpa using h)
    show totS (plX x :: (l.eraseIdx i).map plX) = totS (plX x :: l.map plX) - y.a.by_
    unfold totS at ih ⊢
    rw [List.map_cons, List.map_cons, List.sum_cons, List.sum_cons, ih]
    omega
theorem nodup_erase {l : List CX} {i : Nat} (h : (l.map idX).Nodup) : ((l.eraseIdx i).map idX).Nodup := h.sublist ((List.eraseIdx_sublist l i).map _)
theorem mem_without {l : List CX} {i : Nat} {y : CX} (h : (l.map idX).Nodup) (hy : l[i]? = some y) (hids : ∀ j, j ∈ ids ↔ j ∈ l.map idX) : ∀ j, j ∈ without' ids (idI y.a.id) ↔ j ∈ (l.eraseIdx i).map idX := by
  intro j
  have e : (l.eraseIdx i).map idX = (without (l.map plX) (idX y)).map (·.id) := by
    rw [erase_without h hy, List.map_map]; rfl
  rw [e]
  unfold without' without
  rw [List.mem_filter, hids, List.mem_map, List.mem_map]
  constructor
  · rintro ⟨⟨z, hz, rfl⟩, h2⟩
    exact ⟨plX z, List.mem_filter.2 ⟨List.mem_map.2 ⟨z, hz, rfl⟩, h2⟩, rfl⟩
  · rintro ⟨a, ha, rfl⟩
    obtain ⟨h1, h2⟩ := List.mem_filter.1 ha
    obtain ⟨z, hz, rfl⟩ := List.mem_map.1 h1
    exact ⟨⟨z, hz, rfl⟩, h2⟩
end
theorem errA_ok : ∀ {l : List Ar} {seen : List (List Int)}, seen.Nodup → errA seen l = 0 → (∀ a ∈ l, arBad a = false) ∧ (seen ++ l.map (·.id)).Nodup
  | [], seen, hs, _ => ⟨(fun a h => by cases h), by simpa using hs⟩
  | a :: l, seen, hs, h => by
    have e : errA seen (a :: l) = if arBad a = true then 2 else if a.id ∈ seen then 7 else errA (seen ++ [a.id]) l := rfl
    rw [e] at h
    split at h
    · cases h
    · rename_i hb
      split at h
      · cases h
      · rename_i hn
        have hs' : (seen ++ [a.id]).Nodup := by
          rw [List.nodup_append]
          exact ⟨hs, by simp, fun x hx y hy e => by simp at hy; subst hy; subst e; exact hn hx⟩
        obtain ⟨h1, h2⟩ := errA_ok hs' h
        refine ⟨fun x hx => ?_, by simpa using h2⟩
        rcases List.mem_cons.1 hx with rfl | hx
        · simpa using hb
        · exact h1 x hx
theorem arOK_of {x : AX} (h : arBad x.pl = false) (gl : x.gs.length ≤ 1048576) (gz : ∀ z ∈ x.gs, z.size ≤ 9223372036854775807) (hl : x.hs.length ≤ 1048576) (id : ∀ j, 0 ≤ x.id j ∧ x.id j ≤ 255) (hs : ∀ h ∈ x.hs, ∀ j, 0 ≤ h j ∧ h j ≤ 255) : ArOK x := by
  unfold arBad at h
  simp only [Bool.or_eq_false_iff, Bool.not_eq_false', decide_eq_false_iff_not] at h
  obtain ⟨⟨⟨⟨⟨h1, h2⟩, h3⟩, h4⟩, h5⟩, h6⟩ := h
  unfold minB at h1 h2
  simp only [Bool.and_eq_true, decide_eq_true_eq] at h1 h2
  exact ⟨h1, h2, ⟨by show 0 ≤ x.pl.by_; omega, by show x.pl.by_ ≤ _; omega⟩, ⟨by show 0 ≤ x.pl.ct; omega, by show x.pl.ct ≤ _; omega⟩, gl, gz, hl, id, hs⟩

/-- Articles that are not too many and not too long. -/
structure ArSz (x : AX) : Prop where
  gl : x.gs.length ≤ 1048576
  gz : ∀ z ∈ x.gs, z.size ≤ 9223372036854775807
  hl : x.hs.length ≤ 1048576
  id : ∀ j, 0 ≤ x.id j ∧ x.id j ≤ 255
  hs : ∀ h ∈ x.hs, ∀ j, 0 ≤ h j ∧ h j ≤ 255
def planErr (L : List Rl) (l : List Ar) (now budget : Int) : Int := if chkR L ≠ 0 then chkR L else if (!minB now || decide (budget < 0)) = true then 2 else errA [] l
def whyC (r : (Nat → Int) × Nat) : List Value := whyL r.1 (r.2 : Int)
theorem whyC_length (r : (Nat → Int) × Nat) : (whyC r).length = 33 := rfl
def whyS (r : (Nat → Int) × Nat) : List Int × Nat := (idI r.1, r.2)

set_option maxRecDepth 100000 in
set_option maxHeartbeats 2000000 in
theorem eplan_any (L : List Rl) (p : Option Addr) (c : Nat) (l : List AX) (q : Option Addr) (d : Nat) (now budget : Int) (w : World) (hR : RowA rlC 3 w p L) (hA : RowA axC 39 w q l) (hX : ∀ x ∈ l, AXR w x) (hsz : ∀ x ∈ l, ArSz x) (hl : l.length ≤ 1000) :
    Calls Try.prog 14 #[.slice p L.length c, .slice q l.length d, .int .i64 now, .int .i64 budget] w fun e w' => K0 w w' ∧
      ((planErr L (l.map AX.pl) now budget ≠ 0 ∧ e = .returned (.tuple #[.slice none 0 0, .int .i64 (planErr L (l.map AX.pl) now budget)])) ∨
       (planErr L (l.map AX.pl) now budget = 0 ∧ ∃ (R : List ((Nat → Int) × Nat)) (p' : Option Addr) (c' : Nat), e = .returned (.tuple #[.slice p' R.length c', .int .i64 0]) ∧ w'.ownsRow w.heap.size 44 33 (.slice p' R.length c') R.length (R.flatMap whyC) ∧ R.map whyS = (refP L now budget l.length (l.map AX.pl)).1 ∧ (∀ r ∈ R, ∀ j, 0 ≤ r.1 j ∧ r.1 j ≤ 255))) := by
  refine vc_eplan p L.length c q l.length d now budget w _ ?_
  refine ⟨(ecompile_any L p c w hR).mono fun e w1 ⟨k1, he⟩ => ?_⟩
  rcases he with ⟨h0, q2, d2, bs, he, hbs, hP⟩ | ⟨h0, he⟩
  rotate_left
  · have eP : planErr L (l.map AX.pl) now budget = chkR L := by unfold planErr; rw [if_pos h0]
    rw [eP]
    exact ⟨_, _, _, _, _, _, _, he, .of_k0 k1, fun n2 => bsp_intro (fun _ W hW => ⟨k1.trans (hW.kk rfl), .inl ⟨h0, rfl⟩⟩) (fun h => by simp at h; exact absurd h h0)⟩
  refine ⟨_, _, _, _, _, _, _, he, .of_k0 k1, fun n2 => bsp_intro (fun h => by simp at h) (fun _ => ?_)⟩
  refine bsp_intro (fun hbad W hW => ?_) (fun hgood W hW => ?_)
  · have eP : planErr L (l.map AX.pl) now budget = 2 := by unfold planErr; rw [if_neg (by simpa using h0), if_pos hbad]
    rw [eP]
    exact ⟨k1.trans (hW.kk rfl), .inl ⟨by decide, rfl⟩⟩
  have eP : planErr L (l.map AX.pl) now budget = errA [] (l.map AX.pl) := by unfold planErr; rw [if_neg (by simpa using h0), if_neg (by simpa using hgood)]
  rw [eP]
  have kW : K0 w W := k1.trans (hW.kk rfl)
  refine ⟨(echeckA_any l q d W (fun k y hy => by
    obtain ⟨b, o, h1, h2⟩ := hA k y hy
    exact ⟨b, o, h1, h2.k0 kW⟩) (by omega) (fun x hx => (hsz x hx).id)).mono fun e w2 ⟨he, k2⟩ => ⟨_, he, .of_k0 k2, ?_⟩⟩
  have kw2 : K0 w w2 := kW.trans k2
  refine bsp_intro (fun hbad => ?_) (fun hgood2 => ?_)
  · have hbad : errA [] (l.map AX.pl) ≠ 0 := by simpa using hbad
    exact ⟨kw2, .inl ⟨hbad, rfl⟩⟩
  have herr : errA [] (l.map AX.pl) = 0 := by simpa using hgood2
  obtain ⟨hgoodA, hnd⟩ := errA_ok .nil herr
  rw [List.nil_append] at hnd
  have hok : ∀ x ∈ l, ArOK x := fun x hx => by
    have h := hsz x hx
    exact arOK_of (hgoodA x.pl (List.mem_map.2 ⟨x, hx, rfl⟩)) h.gl h.gz h.hl h.id h.hs
  have hrl := rlF_all (l := L) (by
    unfold chkR at h0
    split at h0
    · cases h0
    · exact h0)
  refine ⟨(enewP_any L p c q2 d2 bs l q d now budget w2 (hR.k0 kw2) (hP.k0 ((hW.kk rfl).trans k2)) hbs (chkR_len h0) hrl (hA.k0 kw2) (fun x hx => (hX x hx).k0 kw2) hok hl).mono fun e w3 he3 => ?_⟩
  obtain ⟨b, p', c', mb, hs, he, hpl, hperm, hsrt⟩ := he3
  have k3 : K0 w2 w3 := hpl.k0
  refine ⟨_, he, .of_k0 k3, ?_⟩
  -- the candidates
  have hmk : ∀ y ∈ hs, y = mkC L now y.a ∧ y.a ∈ l := fun y hy => by
    obtain ⟨x, hx, rfl⟩ := List.mem_map.1 (hperm.mem_iff.1 hy)
    exact ⟨rfl, hx⟩
  have hplp : (hs.map plX).Perm (l.map AX.pl) := by
    have := hperm.map plX
    rw [List.map_map] at this
    exact this
  have hArs : ArsOK (l.map AX.pl) := ⟨by
    have := hnd
    rwa [List.map_map] at this ⊢, fun a ha => by
    obtain ⟨x, hx, rfl⟩ := List.mem_map.1 ha
    exact idI_bd (hok x hx).id⟩
  have hsrtA : srtA (hs.map plX) := by
    show ((hs.map plX).map keyA).Pairwise _
    rw [List.map_map, List.pairwise_map]
    refine hsrt.imp_of_mem fun {x y} hx hy hxy => ?_
    have hx' := idI_bd (hok _ (hmk x hx).2).id
    have hy' := idI_bd (hok _ (hmk y hy).2).id
    have := cfJ_K (x := keyX y) (y := keyX x) hy' hx'
    show ¬ cfK (keyA y.a.pl) (keyA x.a.pl) < 0
    rw [show cfK (keyA y.a.pl) (keyA x.a.pl) = cfX y x from this]
    exact hxy
  have href := (ref_plan (l := L) (now := now) (budget := budget) l.length (l.map AX.pl) (hs.map plX) hplp hsrtA hArs).1
  have hlen : hs.length = l.length := by have := hperm.length_eq; rw [List.length_map] at this; exact this
  have htot : sumB l = totS (hs.map plX) := by
    rw [tot_perm hplp]
    unfold sumB totS
    rw [List.map_map]; rfl
  have hids0 : ∀ i, i ∈ (l.map fun x => idI x.id) ↔ i ∈ hs.map idX := fun i => by
    have := (hplp.map (·.id)).mem_iff (a := i)
    rw [List.map_map, List.map_map] at this
    exact this.symm
  have hnd0 : (hs.map idX).Nodup := by
    have := (hplp.map (·.id)).nodup_iff.2 (by rw [List.map_map] at hnd ⊢; exact hnd)
    rw [List.map_map] at this
    exact this
  rw [htot] at hpl
  refine ⟨fun vs w' => ∃ (R : List ((Nat → Int) × Nat)) (p9 : Option Addr) (c9 : Nat) (cur : List CX) (ids : List (List Int)), vs = [.slice p9 R.length c9] ∧ R.length + cur.length = l.length ∧ (∀ y ∈ cur, y ∈ hs) ∧ (∀ i, i ∈ ids ↔ i ∈ cur.map idX) ∧ (cur.map idX).Nodup ∧
      R.map whyS ++ (planS L now budget cur.length (cur.map plX)).1 = (planS L now budget l.length (hs.map plX)).1 ∧ (∀ r ∈ R, ∀ j, 0 ≤ r.1 j ∧ r.1 j ≤ 255) ∧ PlR w2 w' b p' c' mb (totS (cur.map plX)) budget cur ids ∧ w'.ownsRow w2.heap.size 44 33 (.slice p9 R.length c9) R.length (R.flatMap whyC),
    fun vs _ => (match vs with | .slice _ n _ :: _ => l.length - n | _ => 0), ⟨[], none, 0, hs, _, rfl, by simpa using hlen, (fun y hy => hy), hids0, hnd0, by rw [List.map_nil, List.nil_append, hlen], (fun r hr => by cases hr), hpl, World.ownsRow_nil _ _ _ _⟩, ?_⟩
  rintro p9 n9 c9 w4 ⟨R, p9', c9', cur, ids, hv, hRc, hcur, hids, hndc, hplan, hRb, hpl4, ho4⟩ hL4
  simp only [List.cons.injEq, Value.slice.injEq, and_true] at hv
  obtain ⟨rfl, rfl, rfl⟩ := hv
  have okc : ∀ y ∈ cur, ArOK y.a := fun y hy => hok _ (hmk y (hcur y hy)).2
  have hbd := sumB_bd (cur.map (·.a)) (fun x hx => by
    obtain ⟨y, hy, rfl⟩ := List.mem_map.1 hx
    exact (okc y hy).by_)
  have etot : totS (cur.map plX) = sumB (cur.map (·.a)) := by
    unfold totS sumB
    rw [List.map_map, List.map_map]; rfl
  rw [List.length_map] at hbd
  have hcl : cur.length ≤ 1000 := by omega
  refine ⟨(estep_any hpl4 okc hcl (by rw [etot]; omega)).mono fun e w5 he5 => ?_⟩
  have hpk := pickI_S (L := L) (now := now) (budget := budget) (fun y hy => (hmk y (hcur y hy)).1) hids
  rcases he5 with ⟨hno, he, k5⟩ | ⟨i, k, y, hpick, hy, he, hpl5, k5⟩
  · rw [hno] at hpk
    simp only at hpk
    refine ⟨_, _, _, he, .of_k0 k5, fun n4 => bsp_intro (fun _ W6 hW6 => ?_) (fun h => absurd h (by decide))⟩
    have k6 : K0 w5 W6 := hW6.kk rfl
    have hK : K0 w w4 := kw2.trans hpl4.k0
    refine ⟨(hK.trans k5).trans k6, .inr ⟨herr, R, p9, c9, rfl, own_base (owns_kp (owns_kp ho4 k5 (fun _ _ h => h)) k6 (fun _ _ h => h)) kw2.size, ?_, hRb⟩⟩
    rw [href, ← hplan]
    have : (planS L now budget cur.length (cur.map plX)).1 = [] := by
      cases hn : cur.length with
      | zero => rfl
      | succ n => simp only [planS, hpk]
    rw [this, List.append_nil]
  · rw [hpick] at hpk
    obtain ⟨y', hy', hpS⟩ := hpk
    rw [hy] at hy'
    simp at hy'
    subst hy'
    have hil : i < cur.length := (List.getElem?_eq_some_iff.1 hy).1
    have hnr : ∀ j, (Value.slice p9 R.length c9).ownBlock = some j → ¬ (j = b ∨ j = mb ∨ (Value.slice p' cur.length c').ownBlock = some j) := fun j hj => by
      obtain ⟨cc, hcc⟩ := own_type ho4 hj
      obtain ⟨es, cl, hmb⟩ := hpl4.mapAt
      rintro (e | e | e)
      · exact blk_ne hcc hpl4.blk rfl e
      · exact blk_neMap hcc hmb e
      · exact own_not hpl4.own hcc rfl e
    have ho5 := owns_kp ho4 k5 hnr
    have hn2 := hL4.cells 0 rfl
    have hn2r : ¬ (n2 = b ∨ n2 = mb ∨ (Value.slice p' cur.length c').ownBlock = some n2) := by
      obtain ⟨es, cl, hmb⟩ := hpl4.mapAt
      rintro (e | e | e)
      · exact blk_ne hn2 hpl4.blk rfl e
      · exact blk_neMap hn2 hmb e
      · exact own_not hpl4.own hn2 rfl e
    refine ⟨y.a.id, (k : Int), true, he, .of_kp k5 (fun z hz => by simp at hz; subst hz; exact hn2r), fun n4 => bsp_intro (fun h => absurd h (by decide)) (fun _ n5 W6 hW6 => ?_)⟩
    have k6 : K0 w5 W6 := hW6.kk rfl
    have ho6 := owns_kp ho5 k6 (fun _ _ h => h)
    have hpl6 := hpl5.k k6
    refine ⟨w2.heap.size, _, ho6, by omega, by omega, hpl6.k0.size, fun p8 c8 w7 ho7 hg7 _ => ?_⟩
    have k7 := kp_grown hg7
    have hn2' := hW6.cells 0 rfl
    have hn4' := hW6.cells 2 rfl
    have r2 : ¬ (Value.slice p9 R.length c9).ownBlock = some n2 := own_not ho6 hn2' rfl
    have r4 : ¬ (Value.slice p9 R.length c9).ownBlock = some n4 := fun e => by
      have h1 := own_lt ho5 e
      have h2 := hW6.fresh 2 rfl rfl
      simp only at h2
      omega
    have rb : ¬ (Value.slice p9 R.length c9).ownBlock = some b := own_not ho6 hpl6.blk rfl
    obtain ⟨es, cl, hmb⟩ := hpl6.mapAt
    have rmb : ¬ (Value.slice p9 R.length c9).ownBlock = some mb := own_notMap ho6 hmb
    have hel : (cur.eraseIdx i).length = cur.length - 1 := List.length_eraseIdx_of_lt hil
    refine ⟨.of_kp k7 (fun z hz => ?_), ⟨R ++ [(y.a.id, k)], p8, c8, cur.eraseIdx i, without' ids (idI y.a.id), by simp, ?_, ?_, ?_, nodup_erase hndc, ?_, ?_, ?_, ?_⟩, ?_⟩
    · simp only [List.mem_cons, List.not_mem_nil, or_false] at hz
      rcases hz with rfl | rfl
      · exact r2
      · exact r4
    · rw [List.length_append, hel]; simp only [List.length_cons, List.length_nil]; omega
    · exact fun z hz => hcur z (List.mem_of_mem_eraseIdx hz)
    · exact mem_without hndc hy hids
    · rw [← hplan, List.map_append, List.append_assoc]
      congr 1
      have e1 : cur.length = (cur.eraseIdx i).length + 1 := by omega
      have e2 : (planS L now budget cur.length (cur.map plX)).1 = ((plX y).id, k) :: (planS L now budget (cur.eraseIdx i).length (without (cur.map plX) (plX y).id)).1 := by
        rw [e1]
        simp only [planS, hpS]
      rw [e2]
      show whyS (y.a.id, k) :: _ = _
      rw [show without (cur.map plX) (plX y).id = (cur.eraseIdx i).map plX from erase_without hndc hy]
      rfl
    · intro r hr
      rcases List.mem_append.1 hr with h | h
      · exact hRb r h
      · simp at h
        subst h
        exact (okc y (List.mem_of_getElem? hy)).id
    · have hpl6' : PlR w2 W6 b p' c' mb (totS ((cur.eraseIdx i).map plX)) budget (cur.eraseIdx i) (without' ids (idI y.a.id)) := by rw [totS_erase hy]; exact hpl6
      refine hpl6'.kp k7 rb (fun j hj e => ?_) rmb (Kp.fresh hpl6.k0 k7 (fun j hj e => by have := own_ge ho6 e; omega))
      obtain ⟨cc, hcc⟩ := own_type ho6 e
      exact own_not hpl6'.own hcc rfl hj
    · rw [List.flatMap_append]
      have e : (R ++ [(y.a.id, k)]).length = R.length + 1 := by simp
      rw [e]
      simpa [whyC, whyL] using ho7
    · simp only
      omega

end Go.Proofs.Ytmjanmffnblcoaa

/- Matching by rows (plain): the marks of the program's Match are those of a table of prefixes. No condition. -/
namespace Go.Proofs.Ytmjanmffnblcoaa

def rowS (prev h : Nat → Bool) : Nat → Bool
  | 0 => prev 0
  | k + 1 => prev (k + 1) || (h k && rowS prev h k)
def rowC (prev h : Nat → Bool) : Nat → Bool
  | 0 => false
  | k + 1 => h k && prev k
/-- The first i elements match the first k characters. -/
def pmF (st : Nat → Bool) (h : Nat → Nat → Bool) : Nat → Nat → Bool
  | 0, k => k == 0
  | i + 1, k => if st i = true then rowS (pmF st h i) (h i) k else rowC (pmF st h i) (h i) k
theorem pmF_zero (st : Nat → Bool) (h : Nat → Nat → Bool) (i : Nat) : pmF st h (i + 1) 0 = (st i && pmF st h i 0) := by
  simp only [pmF]; cases st i <;> simp [rowS, rowC]
theorem pmF_succ (st : Nat → Bool) (h : Nat → Nat → Bool) (i k : Nat) : pmF st h (i + 1) (k + 1) = if st i = true then pmF st h i (k + 1) || (h i k && pmF st h (i + 1) k) else h i k && pmF st h i k := by
  simp only [pmF]; cases hs : st i <;> simp [rowS, rowC]
theorem run_pm (els : List El) (s : ByteArray) : ∀ (k j : Nat), runF els s k j = if elS els j = true then pmF (elS els) (fun i k => elH els i (at8 s k)) (j + 1) k else pmF (elS els) (fun i k => elH els i (at8 s k)) j k := by
  intro k
  induction k with
  | zero =>
    have key : ∀ j, spF (elS els) (fun j => j == 0) j = pmF (elS els) (fun i k => elH els i (at8 s k)) j 0 := by
      intro j
      induction j with
      | zero => rfl
      | succ j ih => rw [pmF_zero, spF, ih]; simp
    intro j
    rw [runF, key]
    split
    · rename_i hs; rw [pmF_zero, hs]; simp
    · rfl
  | succ k ih =>
    intro j
    rw [runF]
    induction j with
    | zero =>
      rw [spF]
      simp only [stpF, ih 0]
      cases hs : elS els 0 with
      | true => rw [if_pos rfl, if_pos rfl, pmF_succ, hs, if_pos rfl, Bool.and_comm]; simp [pmF]
      | false => simp [pmF]
    | succ j ihj =>
      rw [spF, ihj]
      have h1 : ((match j + 1 with | 0 => false | i + 1 => !elS els i && runF els s k i && elH els i (at8 s k)) || (elS els j && if elS els j = true then pmF (elS els) (fun i k => elH els i (at8 s k)) (j + 1) (k + 1) else pmF (elS els) (fun i k => elH els i (at8 s k)) j (k + 1))) = pmF (elS els) (fun i k => elH els i (at8 s k)) (j + 1) (k + 1) := by
        simp only [ih j]
        rw [pmF_succ]
        cases hs : elS els j with
        | true => simp
        | false => simp [Bool.and_comm]
      unfold stpF
      rw [Bool.or_assoc, h1, ih (j + 1)]
      cases hs : elS els (j + 1) with
      | true => rw [if_pos rfl, if_pos rfl, pmF_succ _ _ (j + 1), hs, if_pos rfl, Bool.or_comm, Bool.true_and, Bool.and_comm]
      | false => simp
/-- The program's Match by the table. -/
theorem match_pm (els : List El) (s : ByteArray) : matchB els s = pmF (elS els) (fun i k => elH els i (at8 s k)) els.length s.size := by
  unfold matchB
  rw [run_pm, if_neg (by simp [elS])]

end Go.Proofs.Ytmjanmffnblcoaa

/- Patterns of the reference (plain): matching by rows agrees with the program's Match, where the elements agree. No condition. -/
namespace Go.Proofs.Ytmjanmffnblcoaa

/-- An element of a pattern of the reference. -/
structure RE where
  star : Bool
  set : Nat → Bool
/-- An element and that of the reference. -/
structure RelE (e : El) (r : RE) : Prop where
  star : e.isStar = r.star
  set : r.star = false → ∀ c : Nat, c < 128 → hasB e.chars c = r.set c
  char : ∀ c : Int, 0 ≤ c → c ≤ 255 → hasB e.chars c = true → charB c = true
theorem name_char : ∀ c : Int, 0 ≤ c → c ≤ 255 → hasB nameBytes c = charB c := by
  have h : ∀ n : Fin 256, hasB nameBytes (n.val : Int) = charB (n.val : Int) := by decide +kernel
  intro c h0 h1
  have := h ⟨c.toNat, by omega⟩
  simp only at this
  rw [show ((c.toNat : Nat) : Int) = c by omega] at this
  exact this
theorem charB_lt {c : Int} (h : charB c = true) : 0 ≤ c ∧ c < 128 := by
  simp [charB, lowerB, digitB] at h
  omega
theorem pmF_congr {st st' : Nat → Bool} {h h' : Nat → Nat → Bool} : ∀ (i k : Nat), (∀ j, j < i → st j = st' j) → (∀ j l, j < i → l < k → h j l = h' j l) → pmF st h i k = pmF st' h' i k
  | 0, k, _, _ => rfl
  | i + 1, 0, h1, h2 => by
    rw [pmF_zero, pmF_zero, h1 i (by omega), pmF_congr i 0 (fun j hj => h1 j (by omega)) (fun j l hj hl => by omega)]
  | i + 1, k + 1, h1, h2 => by
    have a := pmF_congr i (k + 1) (fun j hj => h1 j (by omega)) (fun j l hj hl => h2 j l (by omega) hl)
    have b := pmF_congr (i + 1) k h1 (fun j l hj hl => h2 j l hj (by omega))
    have c := pmF_congr i k (fun j hj => h1 j (by omega)) (fun j l hj hl => h2 j l (by omega) (by omega))
    rw [pmF_succ, pmF_succ, h1 i (by omega), h2 i k (by omega) (by omega), a, b, c]
theorem pmF_dead {st : Nat → Bool} {h : Nat → Nat → Bool} {k0 : Nat} (hd : ∀ i, h i k0 = false) : ∀ (i k : Nat), k0 < k → pmF st h i k = false
  | 0, k, hk => by simp [pmF]; omega
  | i + 1, 0, hk => by omega
  | i + 1, k + 1, hk => by
    rw [pmF_succ, pmF_dead hd i (k + 1) hk]
    by_cases e : k = k0
    · subst e; rw [hd i]; simp
    · rw [pmF_dead hd (i + 1) k (by omega), pmF_dead hd i k (by omega)]; simp
def rS (rs : List RE) (j : Nat) : Bool := match rs[j]? with | some r => r.star | none => false
def rH (rs : List RE) (j c : Nat) : Bool := match rs[j]? with | some r => r.set c | none => false
/-- The reference's Match. -/
def rmatchB (rs : List RE) (s : ByteArray) : Bool := (List.range s.size).all (fun i => charB (at8 s i)) && pmF (rS rs) (fun i k => rS rs i || rH rs i (at8 s k).toNat) rs.length s.size
/-- Elements that agree, one by one. -/
structure RelEs (els : List El) (rs : List RE) : Prop where
  len : els.length = rs.length
  at_ : ∀ (j : Nat) (e : El) (r : RE), els[j]? = some e → rs[j]? = some r → RelE e r
theorem RelEs.snoc {els : List El} {rs : List RE} (h : RelEs els rs) {e : El} {r : RE} (hr : RelE e r) : RelEs (els ++ [e]) (rs ++ [r]) := by
  refine ⟨by simp [h.len], fun j e' r' he hr' => ?_⟩
  rw [List.getElem?_append] at he hr'
  rw [← h.len] at hr'
  split at he
  · rename_i hj
    rw [if_pos hj] at hr'
    exact h.at_ j _ _ he hr'
  · rename_i hj
    rw [if_neg hj] at hr'
    cases hjj : j - els.length with
    | zero => rw [hjj] at he hr'; simp at he hr'; subst he; subst hr'; exact hr
    | succ n => rw [hjj] at he; simp at he
theorem rel_match {els : List El} {rs : List RE} (h : RelEs els rs) (s : ByteArray) : matchB els s = rmatchB rs s := by
  rw [match_pm]
  unfold rmatchB
  cases ha : (List.range s.size).all (fun i => charB (at8 s i)) with
  | false =>
    rw [Bool.false_and]
    rw [List.all_eq_false] at ha
    obtain ⟨k0, hk0, hc⟩ := ha
    rw [List.mem_range] at hk0
    refine pmF_dead (k0 := k0) (fun i => ?_) _ _ hk0
    unfold elH
    cases he : els[i]? with
    | none => rfl
    | some e =>
      have hlt : i < rs.length := by rw [← h.len]; exact (List.getElem?_eq_some_iff.1 he).1
      have hr := h.at_ i e _ he (List.getElem?_eq_getElem hlt)
      simp only
      cases hh : hasB e.chars (at8 s k0) with
      | false => rfl
      | true => exact absurd (hr.char _ (at8_bd s k0).1 (at8_bd s k0).2 hh) hc
  | true =>
    rw [Bool.true_and, h.len]
    have hst : ∀ j, elS els j = rS rs j := fun j => by
      unfold elS rS
      rcases Nat.lt_or_ge j els.length with hj | hj
      · have hj' : j < rs.length := by rw [← h.len]; exact hj
        rw [List.getElem?_eq_getElem hj, List.getElem?_eq_getElem hj']
        exact (h.at_ j _ _ (List.getElem?_eq_getElem hj) (List.getElem?_eq_getElem hj')).star
      · rw [List.getElem?_eq_none hj, List.getElem?_eq_none (by rw [← h.len]; exact hj)]
    refine pmF_congr _ _ (fun j _ => hst j) (fun j l hj hl => ?_)
    have hc : charB (at8 s l) = true := List.all_eq_true.1 ha l (List.mem_range.2 hl)
    have hcb := charB_lt hc
    have hj0 : j < els.length := by rw [h.len]; exact hj
    have hr := h.at_ j _ _ (List.getElem?_eq_getElem hj0) (List.getElem?_eq_getElem hj)
    unfold elH rS rH
    rw [List.getElem?_eq_getElem hj0, List.getElem?_eq_getElem hj]
    simp only
    generalize els[j] = e at hr
    generalize rs[j] = r at hr
    cases hs : r.star with
    | true =>
      have : e = .star := by
        have h1 := hr.star
        rw [hs] at h1
        cases e <;> simp [El.isStar] at h1
        rfl
      subst this
      rw [Bool.true_or]
      show hasB nameBytes _ = true
      rw [name_char _ hcb.1 (by omega)]; exact hc
    | false =>
      rw [Bool.false_or]
      have := hr.set hs (at8 s l).toNat (by omega)
      rw [show (((at8 s l).toNat : Nat) : Int) = at8 s l by omega] at this
      exact this

theorem at8_byte {s : ByteArray} {k : Nat} (h : k < s.size) : s.data.toList[k]? = some (at8 s k).toNat.toUInt8 := by
  rw [at8_lt s k h, Array.getElem?_toList, Array.getElem?_eq_getElem (show k < s.data.size from h)]
  congr 1
  show s[k] = _
  rw [Int.toNat_natCast]
  simp
theorem at8_extract (s : ByteArray) (a b j : Nat) (h : a + j < b) (hb : b ≤ s.size) : at8 (s.extract a b) j = at8 s (a + j) := by
  have h1 : j < (s.extract a b).size := by rw [ByteArray.size_extract]; omega
  rw [at8_lt _ _ h1, at8_lt s (a + j) (by omega)]
  rw [ByteArray.getElem_extract h1]

end Go.Proofs.Ytmjanmffnblcoaa

/- The formulas of functions by the symbolic evaluator, and that each gives the call's contract. Written by a program (gen.py). No condition. -/
namespace Go.Proofs.Ytmjanmffnblcoaa
set_option maxRecDepth 100000
set_option linter.unusedVariables false

def VC_rclass (s : ByteArray) (at_ : Int) (w : World) (R : Ending → World → Prop) : Prop :=
 ∀ (n : Nat) (w1 : World),
 NewB w
 (Obj.cells
 #[Value.bool false, Value.bool false, Value.bool false, Value.bool false, Value.bool false, Value.bool false,
 Value.bool false, Value.bool false, Value.bool false, Value.bool false, Value.bool false, Value.bool false,
 Value.bool false, Value.bool false, Value.bool false, Value.bool false, Value.bool false, Value.bool false,
 Value.bool false, Value.bool false, Value.bool false, Value.bool false, Value.bool false, Value.bool false,
 Value.bool false, Value.bool false, Value.bool false, Value.bool false, Value.bool false, Value.bool false,
 Value.bool false, Value.bool false, Value.bool false, Value.bool false, Value.bool false, Value.bool false,
 Value.bool false, Value.bool false, Value.bool false, Value.bool false, Value.bool false, Value.bool false,
 Value.bool false, Value.bool false, Value.bool false, Value.bool false, Value.bool false, Value.bool false,
 Value.bool false, Value.bool false, Value.bool false, Value.bool false, Value.bool false, Value.bool false,
 Value.bool false, Value.bool false, Value.bool false, Value.bool false, Value.bool false, Value.bool false,
 Value.bool false, Value.bool false, Value.bool false, Value.bool false, Value.bool false, Value.bool false,
 Value.bool false, Value.bool false, Value.bool false, Value.bool false, Value.bool false, Value.bool false,
 Value.bool false, Value.bool false, Value.bool false, Value.bool false, Value.bool false, Value.bool false,
 Value.bool false, Value.bool false, Value.bool false, Value.bool false, Value.bool false, Value.bool false,
 Value.bool false, Value.bool false, Value.bool false, Value.bool false, Value.bool false, Value.bool false,
 Value.bool false, Value.bool false, Value.bool false, Value.bool false, Value.bool false, Value.bool false,
 Value.bool false, Value.bool false, Value.bool false, Value.bool false, Value.bool false, Value.bool false,
 Value.bool false, Value.bool false, Value.bool false, Value.bool false, Value.bool false, Value.bool false,
 Value.bool false, Value.bool false, Value.bool false, Value.bool false, Value.bool false, Value.bool false,
 Value.bool false, Value.bool false, Value.bool false, Value.bool false, Value.bool false, Value.bool false,
 Value.bool false, Value.bool false, Value.bool false, Value.bool false, Value.bool false, Value.bool false,
 Value.bool false, Value.bool false, Value.bool false]
 122)
 n w1 →
 ∀ (n_1 : Nat) (w1_1 : World),
 NewB w1
 (Obj.cells
 #[Value.bool false, Value.bool false, Value.bool false, Value.bool false, Value.bool false, Value.bool false,
 Value.bool false, Value.bool false, Value.bool false, Value.bool false, Value.bool false, Value.bool false,
 Value.bool false, Value.bool false, Value.bool false, Value.bool false, Value.bool false, Value.bool false,
 Value.bool false, Value.bool false, Value.bool false, Value.bool false, Value.bool false, Value.bool false,
 Value.bool false, Value.bool false, Value.bool false, Value.bool false, Value.bool false, Value.bool false,
 Value.bool false, Value.bool false, Value.bool false, Value.bool false, Value.bool false, Value.bool false,
 Value.bool false, Value.bool false, Value.bool false, Value.bool false, Value.bool false, Value.bool false,
 Value.bool false, Value.bool false, Value.bool false, Value.bool false, Value.bool false, Value.bool false,
 Value.bool false, Value.bool false, Value.bool false, Value.bool false, Value.bool false, Value.bool false,
 Value.bool false, Value.bool false, Value.bool false, Value.bool false, Value.bool false, Value.bool false,
 Value.bool false, Value.bool false, Value.bool false, Value.bool false, Value.bool false, Value.bool false,
 Value.bool false, Value.bool false, Value.bool false, Value.bool false, Value.bool false, Value.bool false,
 Value.bool false, Value.bool false, Value.bool false, Value.bool false, Value.bool false, Value.bool false,
 Value.bool false, Value.bool false, Value.bool false, Value.bool false, Value.bool false, Value.bool false,
 Value.bool false, Value.bool false, Value.bool false, Value.bool false, Value.bool false, Value.bool false,
 Value.bool false, Value.bool false, Value.bool false, Value.bool false, Value.bool false, Value.bool false,
 Value.bool false, Value.bool false, Value.bool false, Value.bool false, Value.bool false, Value.bool false,
 Value.bool false, Value.bool false, Value.bool false, Value.bool false, Value.bool false, Value.bool false,
 Value.bool false, Value.bool false, Value.bool false, Value.bool false, Value.bool false, Value.bool false,
 Value.bool false, Value.bool false, Value.bool false, Value.bool false, Value.bool false, Value.bool false,
 Value.bool false, Value.bool false, Value.bool false, Value.bool false, Value.bool false, Value.bool false,
 Value.bool false, Value.bool false, Value.bool false]
 122)
 n_1 w1_1 →
 gimp (decide (IntKind.i64.wrap (at_ + 1) < (↑s.size : Int)))
 (0 ≤ IntKind.i64.wrap (at_ + 1) ∧ IntKind.i64.wrap (at_ + 1) < (↑s.size : Int)) ∧
 ∃ (J : List Value → World → Prop),
 bsp (decide (IntKind.i64.wrap (at_ + 1) < (↑s.size : Int)) && at8 s (IntKind.i64.wrap (at_ + 1)).toNat == 94)
 (J [Value.int IntKind.i64 (IntKind.i64.wrap (IntKind.i64.wrap (at_ + 1) + 1))] w1_1)
 (J [Value.int IntKind.i64 (IntKind.i64.wrap (at_ + 1))] w1_1) ∧
 ∀ (x : Int) (w' : World),
 J [Value.int IntKind.i64 x] w' →
 ∃ (I : List Value → World → Prop),
 ∃ (m : List Value → World → Nat),
 I [Value.int IntKind.i64 x] w' ∧
 ∀ (x_1 : Int) (w' : World),
 I [Value.int IntKind.i64 x_1] w' →
 gimp (decide (x_1 < (↑s.size : Int))) (0 ≤ x_1 ∧ x_1 < (↑s.size : Int)) ∧
 bsp (decide (x_1 < (↑s.size : Int)) && at8 s x_1.toNat != 93)
 ((0 ≤ x_1 ∧ x_1 < (↑s.size : Int)) ∧
 bsp (!charB (at8 s x_1.toNat) || at8 s x_1.toNat == 45 && decide (x_1 > x))
 (∃ (x : Bool),
 ∃ (f : Nat → Bool),
 AtL w' n_1 0
 ([Value.bool x] ++ arrBo f 128 0) ∧
 WrL w' n 0 129 ∧
 ∀ (w1 : World),
 PutB w' n 0
 ([Value.bool x] ++ arrBo f 128 0)
 w1 →
 ∃ (x : Bool),
 ∃ (f : Nat → Bool),
 AtL w1 n 0
 ([Value.bool x] ++ arrBo f 128 0) ∧
 R
 (Ending.returned
 (Value.tuple
 #[Value.agg
 ([Value.bool x] ++ arrBo f 128 0).toArray,
 Value.int IntKind.i64 (-1)]))
 w1)
 (gimp (at8 s x_1.toNat != 45 && decide (IntKind.i64.wrap (x_1 + 1) < (↑s.size : Int)))
 (0 ≤ IntKind.i64.wrap (x_1 + 1) ∧ IntKind.i64.wrap (x_1 + 1) < (↑s.size : Int)) ∧
 bsp
 (at8 s x_1.toNat != 45 && decide (IntKind.i64.wrap (x_1 + 1) < (↑s.size : Int)) &&
 at8 s (IntKind.i64.wrap (x_1 + 1)).toNat == 45)
 (gimp (!(decide (IntKind.i64.wrap (x_1 + 2) ≥ (↑s.size : Int)) || alnumI (at8 s x_1.toNat) == 0))
 (0 ≤ IntKind.i64.wrap (x_1 + 2) ∧ IntKind.i64.wrap (x_1 + 2) < (↑s.size : Int)) ∧
 gimp
 (!(decide (IntKind.i64.wrap (x_1 + 2) ≥ (↑s.size : Int)) || alnumI (at8 s x_1.toNat) == 0 ||
 alnumI (at8 s (IntKind.i64.wrap (x_1 + 2)).toNat) != alnumI (at8 s x_1.toNat)))
 (0 ≤ IntKind.i64.wrap (x_1 + 2) ∧ IntKind.i64.wrap (x_1 + 2) < (↑s.size : Int)) ∧
 bsp
 (decide (IntKind.i64.wrap (x_1 + 2) ≥ (↑s.size : Int)) || alnumI (at8 s x_1.toNat) == 0 ||
 alnumI (at8 s (IntKind.i64.wrap (x_1 + 2)).toNat) != alnumI (at8 s x_1.toNat) ||
 decide (at8 s (IntKind.i64.wrap (x_1 + 2)).toNat < at8 s x_1.toNat))
 (∃ (x : Bool),
 ∃ (f : Nat → Bool),
 AtL w' n_1 0
 ([Value.bool x] ++ arrBo f 128 0) ∧
 WrL w' n 0 129 ∧
 ∀ (w1 : World),
 PutB w' n 0
 ([Value.bool x] ++ arrBo f 128 0)
 w1 →
 ∃ (x : Bool),
 ∃ (f : Nat → Bool),
 AtL w1 n 0
 ([Value.bool x] ++ arrBo f 128 0) ∧
 R
 (Ending.returned
 (Value.tuple
 #[Value.agg
 ([Value.bool x] ++ arrBo f 128 0).toArray,
 Value.int IntKind.i64 (-1)]))
 w1)
 (∃ (I_1 : List Value → World → Prop),
 ∃ (m_1 : List Value → World → Nat),
 I_1 [Value.int IntKind.i64 (IntKind.i64.wrap (at8 s x_1.toNat))] w' ∧
 ∀ (x : Int) (w'_1 : World),
 I_1 [Value.int IntKind.i64 x] w'_1 →
 (0 ≤ IntKind.i64.wrap (x_1 + 2) ∧ IntKind.i64.wrap (x_1 + 2) < (↑s.size : Int)) ∧
 bsp (decide (x ≤ IntKind.i64.wrap (at8 s (IntKind.i64.wrap (x_1 + 2)).toNat)))
 ((0 ≤ x ∧ x < (↑128 : Int)) ∧
 ((∃ (u : Value), w'_1.cell? (Addr.mk n_1 (0 + 1 + x.toNat) none) = some u) ∧
 w'_1.frozen? (Addr.mk n_1 (0 + 1 + x.toNat) none) = false) ∧
 ∀ (w1 : World),
 PutB w'_1 n_1 (0 + 1 + x.toNat) [Value.bool true] w1 →
 I_1 [Value.int IntKind.i64 (IntKind.i64.wrap (x + 1))] w1 ∧
 m_1 [Value.int IntKind.i64 (IntKind.i64.wrap (x + 1))] w1 <
 m_1 [Value.int IntKind.i64 x] w'_1)
 (I [Value.int IntKind.i64 (IntKind.i64.wrap (x_1 + 3))] w'_1 ∧
 m [Value.int IntKind.i64 (IntKind.i64.wrap (x_1 + 3))] w'_1 <
 m [Value.int IntKind.i64 x_1] w')))
 ((0 ≤ at8 s x_1.toNat ∧ at8 s x_1.toNat < (↑128 : Int)) ∧
 ((∃ (u : Value), w'.cell? (Addr.mk n_1 (0 + 1 + (at8 s x_1.toNat).toNat) none) = some u) ∧
 w'.frozen? (Addr.mk n_1 (0 + 1 + (at8 s x_1.toNat).toNat) none) = false) ∧
 ∀ (w1 : World),
 PutB w' n_1 (0 + 1 + (at8 s x_1.toNat).toNat) [Value.bool true] w1 →
 I [Value.int IntKind.i64 (IntKind.i64.wrap (x_1 + 1))] w1 ∧
 m [Value.int IntKind.i64 (IntKind.i64.wrap (x_1 + 1))] w1 < m [Value.int IntKind.i64 x_1] w')))
 (bsp (decide (x_1 ≥ (↑s.size : Int)) || x_1 == x)
 (∃ (x : Bool),
 ∃ (f : Nat → Bool),
 AtL w' n_1 0
 [Value.bool x, Value.bool (f 0), Value.bool (f (0 + 1)), Value.bool (f 2), Value.bool (f 3),
 Value.bool (f 4), Value.bool (f 5), Value.bool (f 6), Value.bool (f 7), Value.bool (f 8),
 Value.bool (f 9), Value.bool (f 10), Value.bool (f 11), Value.bool (f 12), Value.bool (f 13),
 Value.bool (f 14), Value.bool (f 15), Value.bool (f 16), Value.bool (f 17), Value.bool (f 18),
 Value.bool (f 19), Value.bool (f 20), Value.bool (f 21), Value.bool (f 22), Value.bool (f 23),
 Value.bool (f 24), Value.bool (f 25), Value.bool (f 26), Value.bool (f 27), Value.bool (f 28),
 Value.bool (f 29), Value.bool (f 30), Value.bool (f 31), Value.bool (f 32), Value.bool (f 33),
 Value.bool (f 34), Value.bool (f 35), Value.bool (f 36), Value.bool (f 37), Value.bool (f 38),
 Value.bool (f 39), Value.bool (f 40), Value.bool (f 41), Value.bool (f 42), Value.bool (f 43),
 Value.bool (f 44), Value.bool (f 45), Value.bool (f 46), Value.bool (f 47), Value.bool (f 48),
 Value.bool (f 49), Value.bool (f 50), Value.bool (f 51), Value.bool (f 52), Value.bool (f 53),
 Value.bool (f 54), Value.bool (f 55), Value.bool (f 56), Value.bool (f 57), Value.bool (f 58),
 Value.bool (f 59), Value.bool (f 60), Value.bool (f 61), Value.bool (f 62), Value.bool (f 63),
 Value.bool (f 64), Value.bool (f 65), Value.bool (f 66), Value.bool (f 67), Value.bool (f 68),
 Value.bool (f 69), Value.bool (f 70), Value.bool (f 71), Value.bool (f 72), Value.bool (f 73),
 Value.bool (f 74), Value.bool (f 75), Value.bool (f 76), Value.bool (f 77), Value.bool (f 78),
 Value.bool (f 79), Value.bool (f 80), Value.bool (f 81), Value.bool (f 82), Value.bool (f 83),
 Value.bool (f 84), Value.bool (f 85), Value.bool (f 86), Value.bool (f 87), Value.bool (f 88),
 Value.bool (f 89), Value.bool (f 90), Value.bool (f 91), Value.bool (f 92), Value.bool (f 93),
 Value.bool (f 94), Value.bool (f 95), Value.bool (f 96), Value.bool (f 97), Value.bool (f 98),
 Value.bool (f 99), Value.bool (f 100), Value.bool (f 101), Value.bool (f 102), Value.bool (f 103),
 Value.bool (f 104), Value.bool (f 105), Value.bool (f 106), Value.bool (f 107),
 Value.bool (f 108), Value.bool (f 109), Value.bool (f 110), Value.bool (f 111),
 Value.bool (f 112), Value.bool (f 113), Value.bool (f 114), Value.bool (f 115),
 Value.bool (f 116), Value.bool (f 117), Value.bool (f 118), Value.bool (f 119),
 Value.bool (f 120), Value.bool (f 121), Value.bool (f 122), Value.bool (f 123),
 Value.bool (f 124), Value.bool (f 125), Value.bool (f 126), Value.bool (f 127)] ∧
 WrL w' n 0 129 ∧
 ∀ (w1 : World),
 PutB w' n 0
 [Value.bool x, Value.bool (f 0), Value.bool (f (0 + 1)), Value.bool (f 2), Value.bool (f 3),
 Value.bool (f 4), Value.bool (f 5), Value.bool (f 6), Value.bool (f 7), Value.bool (f 8),
 Value.bool (f 9), Value.bool (f 10), Value.bool (f 11), Value.bool (f 12), Value.bool (f 13),
 Value.bool (f 14), Value.bool (f 15), Value.bool (f 16), Value.bool (f 17), Value.bool (f 18),
 Value.bool (f 19), Value.bool (f 20), Value.bool (f 21), Value.bool (f 22), Value.bool (f 23),
 Value.bool (f 24), Value.bool (f 25), Value.bool (f 26), Value.bool (f 27), Value.bool (f 28),
 Value.bool (f 29), Value.bool (f 30), Value.bool (f 31), Value.bool (f 32), Value.bool (f 33),
 Value.bool (f 34), Value.bool (f 35), Value.bool (f 36), Value.bool (f 37), Value.bool (f 38),
 Value.bool (f 39), Value.bool (f 40), Value.bool (f 41), Value.bool (f 42), Value.bool (f 43),
 Value.bool (f 44), Value.bool (f 45), Value.bool (f 46), Value.bool (f 47), Value.bool (f 48),
 Value.bool (f 49), Value.bool (f 50), Value.bool (f 51), Value.bool (f 52), Value.bool (f 53),
 Value.bool (f 54), Value.bool (f 55), Value.bool (f 56), Value.bool (f 57), Value.bool (f 58),
 Value.bool (f 59), Value.bool (f 60), Value.bool (f 61), Value.bool (f 62), Value.bool (f 63),
 Value.bool (f 64), Value.bool (f 65), Value.bool (f 66), Value.bool (f 67), Value.bool (f 68),
 Value.bool (f 69), Value.bool (f 70), Value.bool (f 71), Value.bool (f 72), Value.bool (f 73),
 Value.bool (f 74), Value.bool (f 75), Value.bool (f 76), Value.bool (f 77), Value.bool (f 78),
 Value.bool (f 79), Value.bool (f 80), Value.bool (f 81), Value.bool (f 82), Value.bool (f 83),
 Value.bool (f 84), Value.bool (f 85), Value.bool (f 86), Value.bool (f 87), Value.bool (f 88),
 Value.bool (f 89), Value.bool (f 90), Value.bool (f 91), Value.bool (f 92), Value.bool (f 93),
 Value.bool (f 94), Value.bool (f 95), Value.bool (f 96), Value.bool (f 97), Value.bool (f 98),
 Value.bool (f 99), Value.bool (f 100), Value.bool (f 101), Value.bool (f 102),
 Value.bool (f 103), Value.bool (f 104), Value.bool (f 105), Value.bool (f 106),
 Value.bool (f 107), Value.bool (f 108), Value.bool (f 109), Value.bool (f 110),
 Value.bool (f 111), Value.bool (f 112), Value.bool (f 113), Value.bool (f 114),
 Value.bool (f 115), Value.bool (f 116), Value.bool (f 117), Value.bool (f 118),
 Value.bool (f 119), Value.bool (f 120), Value.bool (f 121), Value.bool (f 122),
 Value.bool (f 123), Value.bool (f 124), Value.bool (f 125), Value.bool (f 126),
 Value.bool (f 127)]
 w1 →
 ∃ (x : Bool),
 ∃ (f : Nat → Bool),
 AtL w1 n 0
 [Value.bool x, Value.bool (f 0), Value.bool (f (0 + 1)), Value.bool (f 2), Value.bool (f 3),
 Value.bool (f 4), Value.bool (f 5), Value.bool (f 6), Value.bool (f 7), Value.bool (f 8),
 Value.bool (f 9), Value.bool (f 10), Value.bool (f 11), Value.bool (f 12),
 Value.bool (f 13), Value.bool (f 14), Value.bool (f 15), Value.bool (f 16),
 Value.bool (f 17), Value.bool (f 18), Value.bool (f 19), Value.bool (f 20),
 Value.bool (f 21), Value.bool (f 22), Value.bool (f 23), Value.bool (f 24),
 Value.bool (f 25), Value.bool (f 26), Value.bool (f 27), Value.bool (f 28),
 Value.bool (f 29), Value.bool (f 30), Value.bool (f 31), Value.bool (f 32),
 Value.bool (f 33), Value.bool (f 34), Value.bool (f 35), Value.bool (f 36),
 Value.bool (f 37), Value.bool (f 38), Value.bool (f 39), Value.bool (f 40),
 Value.bool (f 41), Value.bool (f 42), Value.bool (f 43), Value.bool (f 44),
 Value.bool (f 45), Value.bool (f 46), Value.bool (f 47), Value.bool (f 48),
 Value.bool (f 49), Value.bool (f 50), Value.bool (f 51), Value.bool (f 52),
 Value.bool (f 53), Value.bool (f 54), Value.bool (f 55), Value.bool (f 56),
 Value.bool (f 57), Value.bool (f 58), Value.bool (f 59), Value.bool (f 60),
 Value.bool (f 61), Value.bool (f 62), Value.bool (f 63), Value.bool (f 64),
 Value.bool (f 65), Value.bool (f 66), Value.bool (f 67), Value.bool (f 68),
 Value.bool (f 69), Value.bool (f 70), Value.bool (f 71), Value.bool (f 72),
 Value.bool (f 73), Value.bool (f 74), Value.bool (f 75), Value.bool (f 76),
 Value.bool (f 77), Value.bool (f 78), Value.bool (f 79), Value.bool (f 80),
 Value.bool (f 81), Value.bool (f 82), Value.bool (f 83), Value.bool (f 84),
 Value.bool (f 85), Value.bool (f 86), Value.bool (f 87), Value.bool (f 88),
 Value.bool (f 89), Value.bool (f 90), Value.bool (f 91), Value.bool (f 92),
 Value.bool (f 93), Value.bool (f 94), Value.bool (f 95), Value.bool (f 96),
 Value.bool (f 97), Value.bool (f 98), Value.bool (f 99), Value.bool (f 100),
 Value.bool (f 101), Value.bool (f 102), Value.bool (f 103), Value.bool (f 104),
 Value.bool (f 105), Value.bool (f 106), Value.bool (f 107), Value.bool (f 108),
 Value.bool (f 109), Value.bool (f 110), Value.bool (f 111), Value.bool (f 112),
 Value.bool (f 113), Value.bool (f 114), Value.bool (f 115), Value.bool (f 116),
 Value.bool (f 117), Value.bool (f 118), Value.bool (f 119), Value.bool (f 120),
 Value.bool (f 121), Value.bool (f 122), Value.bool (f 123), Value.bool (f 124),
 Value.bool (f 125), Value.bool (f 126), Value.bool (f 127)] ∧
 R
 (Ending.returned
 (Value.tuple
 #[Value.agg
 #[Value.bool x, Value.bool (f 0), Value.bool (f (0 + 1)), Value.bool (f 2),
 Value.bool (f 3), Value.bool (f 4), Value.bool (f 5), Value.bool (f 6),
 Value.bool (f 7), Value.bool (f 8), Value.bool (f 9), Value.bool (f 10),
 Value.bool (f 11), Value.bool (f 12), Value.bool (f 13), Value.bool (f 14),
 Value.bool (f 15), Value.bool (f 16), Value.bool (f 17), Value.bool (f 18),
 Value.bool (f 19), Value.bool (f 20), Value.bool (f 21), Value.bool (f 22),
 Value.bool (f 23), Value.bool (f 24), Value.bool (f 25), Value.bool (f 26),
 Value.bool (f 27), Value.bool (f 28), Value.bool (f 29), Value.bool (f 30),
 Value.bool (f 31), Value.bool (f 32), Value.bool (f 33), Value.bool (f 34),
 Value.bool (f 35), Value.bool (f 36), Value.bool (f 37), Value.bool (f 38),
 Value.bool (f 39), Value.bool (f 40), Value.bool (f 41), Value.bool (f 42),
 Value.bool (f 43), Value.bool (f 44), Value.bool (f 45), Value.bool (f 46),
 Value.bool (f 47), Value.bool (f 48), Value.bool (f 49), Value.bool (f 50),
 Value.bool (f 51), Value.bool (f 52), Value.bool (f 53), Value.bool (f 54),
 Value.bool (f 55), Value.bool (f 56), Value.bool (f 57), Value.bool (f 58),
 Value.bool (f 59), Value.bool (f 60), Value.bool (f 61), Value.bool (f 62),
 Value.bool (f 63), Value.bool (f 64), Value.bool (f 65), Value.bool (f 66),
 Value.bool (f 67), Value.bool (f 68), Value.bool (f 69), Value.bool (f 70),
 Value.bool (f 71), Value.bool (f 72), Value.bool (f 73), Value.bool (f 74),
 Value.bool (f 75), Value.bool (f 76), Value.bool (f 77), Value.bool (f 78),
 Value.bool (f 79), Value.bool (f 80), Value.bool (f 81), Value.bool (f 82),
 Value.bool (f 83), Value.bool (f 84), Value.bool (f 85), Value.bool (f 86),
 Value.bool (f 87), Value.bool (f 88), Value.bool (f 89), Value.bool (f 90),
 Value.bool (f 91), Value.bool (f 92), Value.bool (f 93), Value.bool (f 94),
 Value.bool (f 95), Value.bool (f 96), Value.bool (f 97), Value.bool (f 98),
 Value.bool (f 99), Value.bool (f 100), Value.bool (f 101), Value.bool (f 102),
 Value.bool (f 103), Value.bool (f 104), Value.bool (f 105), Value.bool (f 106),
 Value.bool (f 107), Value.bool (f 108), Value.bool (f 109), Value.bool (f 110),
 Value.bool (f 111), Value.bool (f 112), Value.bool (f 113), Value.bool (f 114),
 Value.bool (f 115), Value.bool (f 116), Value.bool (f 117), Value.bool (f 118),
 Value.bool (f 119), Value.bool (f 120), Value.bool (f 121), Value.bool (f 122),
 Value.bool (f 123), Value.bool (f 124), Value.bool (f 125), Value.bool (f 126),
 Value.bool (f 127)],
 Value.int IntKind.i64 (-1)]))
 w1)
 (∃ (J : List Value → World → Prop),
 bsp
 (decide (IntKind.i64.wrap (at_ + 1) < (↑s.size : Int)) &&
 at8 s (IntKind.i64.wrap (at_ + 1)).toNat == 94)
 (∃ (I : List Value → World → Prop),
 ∃ (m : List Value → World → Nat),
 I [Value.int IntKind.i64 0] w' ∧
 ∀ (x : Int) (w' : World),
 I [Value.int IntKind.i64 x] w' →
 bsp (decide (x < 128))
 (gimp (charB (IntKind.u8.wrap x)) (0 ≤ x ∧ x < (↑128 : Int)) ∧
 ∃ (x_2 : Bool),
 gimp (charB (IntKind.u8.wrap x))
 (w'.cell? (Addr.mk n_1 (0 + 1 + x.toNat) none) = some (Value.bool x_2)) ∧
 (0 ≤ x ∧ x < (↑128 : Int)) ∧
 ((∃ (u : Value), w'.cell? (Addr.mk n_1 (0 + 1 + x.toNat) none) = some u) ∧
 w'.frozen? (Addr.mk n_1 (0 + 1 + x.toNat) none) = false) ∧
 ∀ (w1 : World),
 PutB w' n_1 (0 + 1 + x.toNat) [Value.bool (charB (IntKind.u8.wrap x) && !x_2)] w1 →
 I [Value.int IntKind.i64 (IntKind.i64.wrap (x + 1))] w1 ∧
 m [Value.int IntKind.i64 (IntKind.i64.wrap (x + 1))] w1 <
 m [Value.int IntKind.i64 x] w')
 (J [] w'))
 (J [] w') ∧
 ∀ (w' : World),
 J [] w' →
 ∃ (x : Bool),
 ∃ (f : Nat → Bool),
 AtL w' n_1 0
 [Value.bool x, Value.bool (f 0), Value.bool (f (0 + 1)), Value.bool (f 2), Value.bool (f 3),
 Value.bool (f 4), Value.bool (f 5), Value.bool (f 6), Value.bool (f 7), Value.bool (f 8),
 Value.bool (f 9), Value.bool (f 10), Value.bool (f 11), Value.bool (f 12), Value.bool (f 13),
 Value.bool (f 14), Value.bool (f 15), Value.bool (f 16), Value.bool (f 17), Value.bool (f 18),
 Value.bool (f 19), Value.bool (f 20), Value.bool (f 21), Value.bool (f 22), Value.bool (f 23),
 Value.bool (f 24), Value.bool (f 25), Value.bool (f 26), Value.bool (f 27), Value.bool (f 28),
 Value.bool (f 29), Value.bool (f 30), Value.bool (f 31), Value.bool (f 32), Value.bool (f 33),
 Value.bool (f 34), Value.bool (f 35), Value.bool (f 36), Value.bool (f 37), Value.bool (f 38),
 Value.bool (f 39), Value.bool (f 40), Value.bool (f 41), Value.bool (f 42), Value.bool (f 43),
 Value.bool (f 44), Value.bool (f 45), Value.bool (f 46), Value.bool (f 47), Value.bool (f 48),
 Value.bool (f 49), Value.bool (f 50), Value.bool (f 51), Value.bool (f 52), Value.bool (f 53),
 Value.bool (f 54), Value.bool (f 55), Value.bool (f 56), Value.bool (f 57), Value.bool (f 58),
 Value.bool (f 59), Value.bool (f 60), Value.bool (f 61), Value.bool (f 62), Value.bool (f 63),
 Value.bool (f 64), Value.bool (f 65), Value.bool (f 66), Value.bool (f 67), Value.bool (f 68),
 Value.bool (f 69), Value.bool (f 70), Value.bool (f 71), Value.bool (f 72), Value.bool (f 73),
 Value.bool (f 74), Value.bool (f 75), Value.bool (f 76), Value.bool (f 77), Value.bool (f 78),
 Value.bool (f 79), Value.bool (f 80), Value.bool (f 81), Value.bool (f 82), Value.bool (f 83),
 Value.bool (f 84), Value.bool (f 85), Value.bool (f 86), Value.bool (f 87), Value.bool (f 88),
 Value.bool (f 89), Value.bool (f 90), Value.bool (f 91), Value.bool (f 92), Value.bool (f 93),
 Value.bool (f 94), Value.bool (f 95), Value.bool (f 96), Value.bool (f 97), Value.bool (f 98),
 Value.bool (f 99), Value.bool (f 100), Value.bool (f 101), Value.bool (f 102),
 Value.bool (f 103), Value.bool (f 104), Value.bool (f 105), Value.bool (f 106),
 Value.bool (f 107), Value.bool (f 108), Value.bool (f 109), Value.bool (f 110),
 Value.bool (f 111), Value.bool (f 112), Value.bool (f 113), Value.bool (f 114),
 Value.bool (f 115), Value.bool (f 116), Value.bool (f 117), Value.bool (f 118),
 Value.bool (f 119), Value.bool (f 120), Value.bool (f 121), Value.bool (f 122),
 Value.bool (f 123), Value.bool (f 124), Value.bool (f 125), Value.bool (f 126),
 Value.bool (f 127)] ∧
 WrL w' n 0 129 ∧
 ∀ (w1 : World),
 PutB w' n 0
 [Value.bool x, Value.bool (f 0), Value.bool (f (0 + 1)), Value.bool (f 2), Value.bool (f 3),
 Value.bool (f 4), Value.bool (f 5), Value.bool (f 6), Value.bool (f 7), Value.bool (f 8),
 Value.bool (f 9), Value.bool (f 10), Value.bool (f 11), Value.bool (f 12),
 Value.bool (f 13), Value.bool (f 14), Value.bool (f 15), Value.bool (f 16),
 Value.bool (f 17), Value.bool (f 18), Value.bool (f 19), Value.bool (f 20),
 Value.bool (f 21), Value.bool (f 22), Value.bool (f 23), Value.bool (f 24),
 Value.bool (f 25), Value.bool (f 26), Value.bool (f 27), Value.bool (f 28),
 Value.bool (f 29), Value.bool (f 30), Value.bool (f 31), Value.bool (f 32),
 Value.bool (f 33), Value.bool (f 34), Value.bool (f 35), Value.bool (f 36),
 Value.bool (f 37), Value.bool (f 38), Value.bool (f 39), Value.bool (f 40),
 Value.bool (f 41), Value.bool (f 42), Value.bool (f 43), Value.bool (f 44),
 Value.bool (f 45), Value.bool (f 46), Value.bool (f 47), Value.bool (f 48),
 Value.bool (f 49), Value.bool (f 50), Value.bool (f 51), Value.bool (f 52),
 Value.bool (f 53), Value.bool (f 54), Value.bool (f 55), Value.bool (f 56),
 Value.bool (f 57), Value.bool (f 58), Value.bool (f 59), Value.bool (f 60),
 Value.bool (f 61), Value.bool (f 62), Value.bool (f 63), Value.bool (f 64),
 Value.bool (f 65), Value.bool (f 66), Value.bool (f 67), Value.bool (f 68),
 Value.bool (f 69), Value.bool (f 70), Value.bool (f 71), Value.bool (f 72),
 Value.bool (f 73), Value.bool (f 74), Value.bool (f 75), Value.bool (f 76),
 Value.bool (f 77), Value.bool (f 78), Value.bool (f 79), Value.bool (f 80),
 Value.bool (f 81), Value.bool (f 82), Value.bool (f 83), Value.bool (f 84),
 Value.bool (f 85), Value.bool (f 86), Value.bool (f 87), Value.bool (f 88),
 Value.bool (f 89), Value.bool (f 90), Value.bool (f 91), Value.bool (f 92),
 Value.bool (f 93), Value.bool (f 94), Value.bool (f 95), Value.bool (f 96),
 Value.bool (f 97), Value.bool (f 98), Value.bool (f 99), Value.bool (f 100),
 Value.bool (f 101), Value.bool (f 102), Value.bool (f 103), Value.bool (f 104),
 Value.bool (f 105), Value.bool (f 106), Value.bool (f 107), Value.bool (f 108),
 Value.bool (f 109), Value.bool (f 110), Value.bool (f 111), Value.bool (f 112),
 Value.bool (f 113), Value.bool (f 114), Value.bool (f 115), Value.bool (f 116),
 Value.bool (f 117), Value.bool (f 118), Value.bool (f 119), Value.bool (f 120),
 Value.bool (f 121), Value.bool (f 122), Value.bool (f 123), Value.bool (f 124),
 Value.bool (f 125), Value.bool (f 126), Value.bool (f 127)]
 w1 →
 ∃ (x : Bool),
 ∃ (f : Nat → Bool),
 AtL w1 n 0
 [Value.bool x, Value.bool (f 0), Value.bool (f (0 + 1)), Value.bool (f 2),
 Value.bool (f 3), Value.bool (f 4), Value.bool (f 5), Value.bool (f 6),
 Value.bool (f 7), Value.bool (f 8), Value.bool (f 9), Value.bool (f 10),
 Value.bool (f 11), Value.bool (f 12), Value.bool (f 13), Value.bool (f 14),
 Value.bool (f 15), Value.bool (f 16), Value.bool (f 17), Value.bool (f 18),
 Value.bool (f 19), Value.bool (f 20), Value.bool (f 21), Value.bool (f 22),
 Value.bool (f 23), Value.bool (f 24), Value.bool (f 25), Value.bool (f 26),
 Value.bool (f 27), Value.bool (f 28), Value.bool (f 29), Value.bool (f 30),
 Value.bool (f 31), Value.bool (f 32), Value.bool (f 33), Value.bool (f 34),
 Value.bool (f 35), Value.bool (f 36), Value.bool (f 37), Value.bool (f 38),
 Value.bool (f 39), Value.bool (f 40), Value.bool (f 41), Value.bool (f 42),
 Value.bool (f 43), Value.bool (f 44), Value.bool (f 45), Value.bool (f 46),
 Value.bool (f 47), Value.bool (f 48), Value.bool (f 49), Value.bool (f 50),
 Value.bool (f 51), Value.bool (f 52), Value.bool (f 53), Value.bool (f 54),
 Value.bool (f 55), Value.bool (f 56), Value.bool (f 57), Value.bool (f 58),
 Value.bool (f 59), Value.bool (f 60), Value.bool (f 61), Value.bool (f 62),
 Value.bool (f 63), Value.bool (f 64), Value.bool (f 65), Value.bool (f 66),
 Value.bool (f 67), Value.bool (f 68), Value.bool (f 69), Value.bool (f 70),
 Value.bool (f 71), Value.bool (f 72), Value.bool (f 73), Value.bool (f 74),
 Value.bool (f 75), Value.bool (f 76), Value.bool (f 77), Value.bool (f 78),
 Value.bool (f 79), Value.bool (f 80), Value.bool (f 81), Value.bool (f 82),
 Value.bool (f 83), Value.bool (f 84), Value.bool (f 85), Value.bool (f 86),
 Value.bool (f 87), Value.bool (f 88), Value.bool (f 89), Value.bool (f 90),
 Value.bool (f 91), Value.bool (f 92), Value.bool (f 93), Value.bool (f 94),
 Value.bool (f 95), Value.bool (f 96), Value.bool (f 97), Value.bool (f 98),
 Value.bool (f 99), Value.bool (f 100), Value.bool (f 101), Value.bool (f 102),
 Value.bool (f 103), Value.bool (f 104), Value.bool (f 105), Value.bool (f 106),
 Value.bool (f 107), Value.bool (f 108), Value.bool (f 109), Value.bool (f 110),
 Value.bool (f 111), Value.bool (f 112), Value.bool (f 113), Value.bool (f 114),
 Value.bool (f 115), Value.bool (f 116), Value.bool (f 117), Value.bool (f 118),
 Value.bool (f 119), Value.bool (f 120), Value.bool (f 121), Value.bool (f 122),
 Value.bool (f 123), Value.bool (f 124), Value.bool (f 125), Value.bool (f 126),
 Value.bool (f 127)] ∧
 R
 (Ending.returned
 (Value.tuple
 #[Value.agg
 #[Value.bool x, Value.bool (f 0), Value.bool (f (0 + 1)), Value.bool (f 2),
 Value.bool (f 3), Value.bool (f 4), Value.bool (f 5), Value.bool (f 6),
 Value.bool (f 7), Value.bool (f 8), Value.bool (f 9), Value.bool (f 10),
 Value.bool (f 11), Value.bool (f 12), Value.bool (f 13), Value.bool (f 14),
 Value.bool (f 15), Value.bool (f 16), Value.bool (f 17), Value.bool (f 18),
 Value.bool (f 19), Value.bool (f 20), Value.bool (f 21), Value.bool (f 22),
 Value.bool (f 23), Value.bool (f 24), Value.bool (f 25), Value.bool (f 26),
 Value.bool (f 27), Value.bool (f 28), Value.bool (f 29), Value.bool (f 30),
 Value.bool (f 31), Value.bool (f 32), Value.bool (f 33), Value.bool (f 34),
 Value.bool (f 35), Value.bool (f 36), Value.bool (f 37), Value.bool (f 38),
 Value.bool (f 39), Value.bool (f 40), Value.bool (f 41), Value.bool (f 42),
 Value.bool (f 43), Value.bool (f 44), Value.bool (f 45), Value.bool (f 46),
 Value.bool (f 47), Value.bool (f 48), Value.bool (f 49), Value.bool (f 50),
 Value.bool (f 51), Value.bool (f 52), Value.bool (f 53), Value.bool (f 54),
 Value.bool (f 55), Value.bool (f 56), Value.bool (f 57), Value.bool (f 58),
 Value.bool (f 59), Value.bool (f 60), Value.bool (f 61), Value.bool (f 62),
 Value.bool (f 63), Value.bool (f 64), Value.bool (f 65), Value.bool (f 66),
 Value.bool (f 67), Value.bool (f 68), Value.bool (f 69), Value.bool (f 70),
 Value.bool (f 71), Value.bool (f 72), Value.bool (f 73), Value.bool (f 74),
 Value.bool (f 75), Value.bool (f 76), Value.bool (f 77), Value.bool (f 78),
 Value.bool (f 79), Value.bool (f 80), Value.bool (f 81), Value.bool (f 82),
 Value.bool (f 83), Value.bool (f 84), Value.bool (f 85), Value.bool (f 86),
 Value.bool (f 87), Value.bool (f 88), Value.bool (f 89), Value.bool (f 90),
 Value.bool (f 91), Value.bool (f 92), Value.bool (f 93), Value.bool (f 94),
 Value.bool (f 95), Value.bool (f 96), Value.bool (f 97), Value.bool (f 98),
 Value.bool (f 99), Value.bool (f 100), Value.bool (f 101), Value.bool (f 102),
 Value.bool (f 103), Value.bool (f 104), Value.bool (f 105), Value.bool (f 106),
 Value.bool (f 107), Value.bool (f 108), Value.bool (f 109), Value.bool (f 110),
 Value.bool (f 111), Value.bool (f 112), Value.bool (f 113), Value.bool (f 114),
 Value.bool (f 115), Value.bool (f 116), Value.bool (f 117), Value.bool (f 118),
 Value.bool (f 119), Value.bool (f 120), Value.bool (f 121), Value.bool (f 122),
 Value.bool (f 123), Value.bool (f 124), Value.bool (f 125), Value.bool (f 126),
 Value.bool (f 127)],
 Value.int IntKind.i64 (IntKind.i64.wrap (x_1 + 1))]))
 w1))
theorem vc_rclass (s : ByteArray) (at_ : Int) (w : World) (R : Ending → World → Prop) (h : VC_rclass s at_ w R) : Calls Try.prog 65 ([Value.string
    s,
  Value.int IntKind.i64 at_] : List Value).toArray w R := by
  have e : execR { P := Try.prog, loops := [(7, [(7, Ck.int IntKind.i64)]), (15, [(11, Ck.int IntKind.i64)]), (25, [(12, Ck.int IntKind.i64)])], pur := pur1, tails := [], joins := [(6, [(7, Ck.int IntKind.i64)]), (28, [])], boxes := [] } Try.f65.results.toList R (Try.f65.body.getD .skip) (initF [Value.string
    s,
  Value.int IntKind.i64
    at_] (Try.f65.ntmps - ([Value.string s,
  Value.int IntKind.i64 at_] : List Value).length)) w = VC_rclass s at_ w R := by kernel_rfl
  have hb : Try.f65.body = some (Try.f65.body.getD .skip) := by kernel_rfl
  exact calls_of_exec' (P := Try.prog) (fn := Try.f65) (c := Try.f65.body.getD .skip) (args := [Value.string s,
  Value.int IntKind.i64 at_]) (w := w) (R := R) pur1_ok Try.func65 hb e h

end Go.Proofs.Ytmjanmffnblcoaa
