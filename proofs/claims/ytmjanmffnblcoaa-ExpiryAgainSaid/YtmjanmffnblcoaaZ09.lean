/- The formulas of functions by the symbolic evaluator, and that each gives the call's contract. Written by a program (gen.py). No condition. -/
import Derived.Test.YtmjanmffnblcoaaProg
import Derived.Test.YtmjanmffnblcoaaZ02
import Derived.Test.YtmjanmffnblcoaaZ08
import Derived.Test.YtmjanmffnblcoaaZ04
import Derived.KernelRfl
namespace Go.Proofs.Ytmjanmffnblcoaa
set_option maxRecDepth 100000
set_option linter.unusedVariables false

def VC_eprot (b : Nat) (o : Nat) (id : Nat → Int) (dt : Int) (ar : Int) (gp : Option Addr) (gn : Nat) (gc : Nat) (by_ : Int) (ct : Int) (hp : Option Addr) (hn : Nat) (hc : Nat) (wd : Bool) (fx : Bool) (ov : Bool) (my : Bool) (w : World) (R : Ending → World → Prop) : Prop :=
 ∀ (n n_1 : Nat),
 ∃ (f : Nat → Int),
 ∃ (x : Int),
 ∃ (x_1 : Int),
 ∃ (p : Option Addr),
 ∃ (n_2 : Nat),
 ∃ (c : Nat),
 ∃ (x_2 : Int),
 ∃ (x_3 : Int),
 ∃ (p_1 : Option Addr),
 ∃ (n_3 : Nat),
 ∃ (c_1 : Nat),
 ∃ (x_4 : Bool),
 gimp (!fx)
 (∀ (W : World),
 Loc w.heap.size
 [Blk.mk n_1 109
 (arrI IntKind.u8 id 32 0 ++ [Value.int IntKind.i64 dt,
 Value.int IntKind.i64 ar, Value.slice gp gn gc, Value.int IntKind.i64 by_,
 Value.int IntKind.i64 ct, Value.slice hp hn hc, Value.bool wd, Value.bool fx, Value.bool ov,
 Value.bool my])
 2,
 Blk.mk n 77 [Value.pointer (some (Addr.mk b o none))] 2]
 w W →
 AtL W n_1 0
 (arrI IntKind.u8 f 32 0 ++ [Value.int IntKind.i64 x,
 Value.int IntKind.i64 x_1, Value.slice p n_2 c, Value.int IntKind.i64 x_2, Value.int IntKind.i64 x_3,
 Value.slice p_1 n_3 c_1, Value.bool x_4])) ∧
 ∀ (W : World),
 Loc w.heap.size
 [Blk.mk n_1 109
 (arrI IntKind.u8 id 32 0 ++ [Value.int IntKind.i64 dt,
 Value.int IntKind.i64 ar, Value.slice gp gn gc, Value.int IntKind.i64 by_, Value.int IntKind.i64 ct,
 Value.slice hp hn hc, Value.bool wd, Value.bool fx, Value.bool ov, Value.bool my])
 2,
 Blk.mk n 77 [Value.pointer (some (Addr.mk b o none))] 2]
 w W →
 bsp (!fx)
 (CallsS Try.prog 15
 #[Value.agg
 (arrI IntKind.u8 f 32 0 ++ [Value.int IntKind.i64 x,
 Value.int IntKind.i64 x_1, Value.slice p n_2 c, Value.int IntKind.i64 x_2,
 Value.int IntKind.i64 x_3, Value.slice p_1 n_3 c_1, Value.bool x_4]).toArray,
 Value.func (Fn.func 74) #[] #[Value.pointer (some (Addr.mk n 0 none))]]
 W fun (e : Ending) (w' : World) =>
 ∃ (x : Bool),
 e = Ending.returned (Value.bool x) ∧
 KeptL [n_1] W w' ∧ R (Ending.returned (Value.bool (false || x))) w')
 (KeptL [n_1] W W ∧ R (Ending.returned (Value.bool true)) W)
theorem vc_eprot (b : Nat) (o : Nat) (id : Nat → Int) (dt : Int) (ar : Int) (gp : Option Addr) (gn : Nat) (gc : Nat) (by_ : Int) (ct : Int) (hp : Option Addr) (hn : Nat) (hc : Nat) (wd : Bool) (fx : Bool) (ov : Bool) (my : Bool) (w : World) (R : Ending → World → Prop) (h : VC_eprot b o id dt ar gp gn gc by_ ct hp hn hc wd fx ov my w R) : Calls Try.prog 61 ([Value.pointer
    (some { block := b, off := o }),
  Value.agg
    (arrI IntKind.u8 id 32 0 ++
        [Value.int IntKind.i64 dt, Value.int IntKind.i64 ar, Value.slice gp gn gc, Value.int IntKind.i64 by_,
          Value.int IntKind.i64 ct, Value.slice hp hn hc, Value.bool wd, Value.bool fx, Value.bool ov,
          Value.bool my]).toArray] : List Value).toArray w R := by
  have e : execR2 { P := Try.prog, loops := [], pur := pur2, tails := [], joins := [], boxes := [] } Try.f61.results.toList R (Try.f61.body.getD .skip) (initF [Value.pointer
    (some { block := b, off := o }),
  Value.agg
    (arrI IntKind.u8 id 32 0 ++
        [Value.int IntKind.i64 dt, Value.int IntKind.i64 ar, Value.slice gp gn gc, Value.int IntKind.i64 by_,
          Value.int IntKind.i64 ct, Value.slice hp hn hc, Value.bool wd, Value.bool fx, Value.bool ov,
          Value.bool
            my]).toArray] (Try.f61.ntmps - ([Value.pointer (some { block := b, off := o }),
  Value.agg
    (arrI IntKind.u8 id 32 0 ++
        [Value.int IntKind.i64 dt, Value.int IntKind.i64 ar, Value.slice gp gn gc, Value.int IntKind.i64 by_,
          Value.int IntKind.i64 ct, Value.slice hp hn hc, Value.bool wd, Value.bool fx, Value.bool ov,
          Value.bool
            my]).toArray] : List Value).length)) w = VC_eprot b o id dt ar gp gn gc by_ ct hp hn hc wd fx ov my w R := by kernel_rfl
  have hb : Try.f61.body = some (Try.f61.body.getD .skip) := by kernel_rfl
  exact calls_of_exec2' (P := Try.prog) (fn := Try.f61) (c := Try.f61.body.getD .skip) (args := [Value.pointer
    (some { block := b, off := o }),
  Value.agg
    (arrI IntKind.u8 id 32 0 ++
        [Value.int IntKind.i64 dt, Value.int IntKind.i64 ar, Value.slice gp gn gc, Value.int IntKind.i64 by_,
          Value.int IntKind.i64 ct, Value.slice hp hn hc, Value.bool wd, Value.bool fx, Value.bool ov,
          Value.bool my]).toArray]) (w := w) (R := R) pur2_ok Try.func61 hb e h

def VC_eprot1 (id : Nat → Int) (b : Nat) (o : Nat) (w : World) (R : Ending → World → Prop) : Prop :=
 ∀ (n : Nat),
 ∃ (x : Option Addr),
 (∀ (W : World),
 Loc w.heap.size
 [Blk.mk n 38
 (arrI IntKind.u8 id 32 0)
 2]
 w W →
 W.cell? (Addr.mk b o none) = some (Value.pointer x)) ∧
 nn true x fun (b o : Nat) =>
 ∃ (x : Option Nat),
 (∀ (W : World),
 Loc w.heap.size
 [Blk.mk n 38
 (arrI IntKind.u8 id 32 0)
 2]
 w W →
 W.cell? (Addr.mk b (o + 1) none) = some (Value.map x)) ∧
 ∃ (x_1 : Bool),
 (∀ (W : World),
 Loc w.heap.size
 [Blk.mk n 38
 (arrI IntKind.u8 id 32 0)
 2]
 w W →
 LookP Try.prog 97 (Value.map x)
 (Value.agg
 (arrI IntKind.u8 id 32 0).toArray)
 false (Value.bool x_1) W) ∧
 ∀ (W : World),
 Loc w.heap.size
 [Blk.mk n 38
 (arrI IntKind.u8 id 32 0)
 2]
 w W →
 R (Ending.returned (Value.bool x_1)) W
theorem vc_eprot1 (id : Nat → Int) (b : Nat) (o : Nat) (w : World) (R : Ending → World → Prop) (h : VC_eprot1 id b o w R) : Calls Try.prog 74 ([Value.agg
    (arrI IntKind.u8 id 32 0).toArray,
  Value.pointer (some { block := b, off := o })] : List Value).toArray w R := by
  have e : execR2 { P := Try.prog, loops := [], pur := pur2, tails := [], joins := [], boxes := [] } Try.f74.results.toList R (Try.f74.body.getD .skip) (initF [Value.agg
    (arrI IntKind.u8 id 32 0).toArray,
  Value.pointer
    (some
      { block := b,
        off :=
          o })] (Try.f74.ntmps - ([Value.agg (arrI IntKind.u8 id 32 0).toArray,
  Value.pointer (some { block := b, off := o })] : List Value).length)) w = VC_eprot1 id b o w R := by kernel_rfl
  have hb : Try.f74.body = some (Try.f74.body.getD .skip) := by kernel_rfl
  exact calls_of_exec2' (P := Try.prog) (fn := Try.f74) (c := Try.f74.body.getD .skip) (args := [Value.agg
    (arrI IntKind.u8 id 32 0).toArray,
  Value.pointer (some { block := b, off := o })]) (w := w) (R := R) pur2_ok Try.func74 hb e h

def VC_estep (b : Nat) (o : Nat) (w : World) (R : Ending → World → Prop) : Prop :=
 ∀ (n n_1 : Nat) (W : World),
 Loc w.heap.size
 [Blk.mk n_1 44
 [Value.int IntKind.u8 0, Value.int IntKind.u8 0, Value.int IntKind.u8 0, Value.int IntKind.u8 0,
 Value.int IntKind.u8 0, Value.int IntKind.u8 0, Value.int IntKind.u8 0, Value.int IntKind.u8 0,
 Value.int IntKind.u8 0, Value.int IntKind.u8 0, Value.int IntKind.u8 0, Value.int IntKind.u8 0,
 Value.int IntKind.u8 0, Value.int IntKind.u8 0, Value.int IntKind.u8 0, Value.int IntKind.u8 0,
 Value.int IntKind.u8 0, Value.int IntKind.u8 0, Value.int IntKind.u8 0, Value.int IntKind.u8 0,
 Value.int IntKind.u8 0, Value.int IntKind.u8 0, Value.int IntKind.u8 0, Value.int IntKind.u8 0,
 Value.int IntKind.u8 0, Value.int IntKind.u8 0, Value.int IntKind.u8 0, Value.int IntKind.u8 0,
 Value.int IntKind.u8 0, Value.int IntKind.u8 0, Value.int IntKind.u8 0, Value.int IntKind.u8 0,
 Value.int IntKind.i64 0]
 2,
 Blk.mk n 77 [Value.pointer (some (Addr.mk b o none))] 2]
 w W →
 ∀ (n_2 n_3 : Nat) (W_1 : World),
 Loc w.heap.size
 [Blk.mk n_3 116 [Value.slice (some (Addr.mk n_2 0 none)) 4 4] (wrM 2),
 Blk.mk n_2 115
 [Value.nilFunc, Value.func (Fn.func 56) #[] #[], Value.func (Fn.func 57) #[] #[],
 Value.func (Fn.func 58) #[] #[Value.pointer (some (Addr.mk n 0 none))]]
 2,
 Blk.mk n_1 44
 [Value.int IntKind.u8 0, Value.int IntKind.u8 0, Value.int IntKind.u8 0, Value.int IntKind.u8 0,
 Value.int IntKind.u8 0, Value.int IntKind.u8 0, Value.int IntKind.u8 0, Value.int IntKind.u8 0,
 Value.int IntKind.u8 0, Value.int IntKind.u8 0, Value.int IntKind.u8 0, Value.int IntKind.u8 0,
 Value.int IntKind.u8 0, Value.int IntKind.u8 0, Value.int IntKind.u8 0, Value.int IntKind.u8 0,
 Value.int IntKind.u8 0, Value.int IntKind.u8 0, Value.int IntKind.u8 0, Value.int IntKind.u8 0,
 Value.int IntKind.u8 0, Value.int IntKind.u8 0, Value.int IntKind.u8 0, Value.int IntKind.u8 0,
 Value.int IntKind.u8 0, Value.int IntKind.u8 0, Value.int IntKind.u8 0, Value.int IntKind.u8 0,
 Value.int IntKind.u8 0, Value.int IntKind.u8 0, Value.int IntKind.u8 0, Value.int IntKind.u8 0,
 Value.int IntKind.i64 0]
 0]
 W W_1 →
 ∀ (n_4 : Nat) (W : World),
 Loc w.heap.size
 [Blk.mk n_4 3 [Value.int IntKind.i64 1] (wrM 2), Blk.mk n_3 116 [Value.slice (some (Addr.mk n_2 0 none)) 4 4] 0,
 Blk.mk n_1 44
 [Value.int IntKind.u8 0, Value.int IntKind.u8 0, Value.int IntKind.u8 0, Value.int IntKind.u8 0,
 Value.int IntKind.u8 0, Value.int IntKind.u8 0, Value.int IntKind.u8 0, Value.int IntKind.u8 0,
 Value.int IntKind.u8 0, Value.int IntKind.u8 0, Value.int IntKind.u8 0, Value.int IntKind.u8 0,
 Value.int IntKind.u8 0, Value.int IntKind.u8 0, Value.int IntKind.u8 0, Value.int IntKind.u8 0,
 Value.int IntKind.u8 0, Value.int IntKind.u8 0, Value.int IntKind.u8 0, Value.int IntKind.u8 0,
 Value.int IntKind.u8 0, Value.int IntKind.u8 0, Value.int IntKind.u8 0, Value.int IntKind.u8 0,
 Value.int IntKind.u8 0, Value.int IntKind.u8 0, Value.int IntKind.u8 0, Value.int IntKind.u8 0,
 Value.int IntKind.u8 0, Value.int IntKind.u8 0, Value.int IntKind.u8 0, Value.int IntKind.u8 0,
 Value.int IntKind.i64 0]
 0]
 W_1 W →
 ∃ (I : List Value → World → Prop),
 ∃ (m : List Value → World → Nat),
 I [Value.pointer (some (Addr.mk n_4 0 none))] W ∧
 ∀ (x : Option Addr) (w' : World),
 I [Value.pointer x] w' →
 nn true x fun (b o : Nat) =>
 ∃ (x_1 : Int),
 w'.cell? (Addr.mk b o none) = some (Value.int IntKind.i64 x_1) ∧
 bsp (decide (x_1 ≤ 3))
 (∃ (x_2 : Option Addr),
 w'.cell? (Addr.mk n 0 none) = some (Value.pointer x_2) ∧
 nn true x_2 fun (b o : Nat) =>
 ∃ (p : Option Addr),
 ∃ (n_5 : Nat),
 ∃ (c : Nat),
 w'.cell? (Addr.mk b o none) = some (Value.slice p n_5 c) ∧
 CallsS Try.prog 59
 #[Value.slice p n_5 c,
 Value.func (Fn.func 60) #[]
 #[Value.pointer (some (Addr.mk n_3 0 none)), Value.pointer x,
 Value.pointer (some (Addr.mk n 0 none))]]
 w' fun (e : Ending) (w'_1 : World) =>
 ∃ (x_3 : Int),
 e = Ending.returned (Value.int IntKind.i64 x_3) ∧
 KeptL [] w' w'_1 ∧
 bsp (decide (x_3 < 0))
 (nn true x fun (b o : Nat) =>
 ∃ (x_4 : Int),
 w'_1.cell? (Addr.mk b o none) = some (Value.int IntKind.i64 x_4) ∧
 ∀ (n : Nat) (W : World),
 Loc w.heap.size
 [Blk.mk n 3 [Value.int IntKind.i64 (IntKind.i64.wrap (x_4 + 1))] (wrM (wrM 2))] w'_1
 W →
 I [Value.pointer (some (Addr.mk n 0 none))] W ∧
 m [Value.pointer (some (Addr.mk n 0 none))] W < m [Value.pointer x] w')
 (∃ (x_4 : Option Addr),
 w'_1.cell? (Addr.mk n 0 none) = some (Value.pointer x_4) ∧
 nn true x_4 fun (b o : Nat) =>
 ∃ (p : Option Addr),
 ∃ (n_6 : Nat),
 ∃ (c : Nat),
 w'_1.cell? (Addr.mk b o none) = some (Value.slice p n_6 c) ∧
 nn true p fun (b o : Nat) =>
 (0 ≤ x_3 ∧ x_3 < (↑n_6 : Int)) ∧
 ∃ (f : Nat → Int),
 ∃ (x_5 : Int),
 ∃ (x_6 : Int),
 ∃ (p : Option Addr),
 ∃ (n_7 : Nat),
 ∃ (c : Nat),
 ∃ (x_7 : Int),
 ∃ (x_8 : Int),
 ∃ (p_1 : Option Addr),
 ∃ (n_8 : Nat),
 ∃ (c_1 : Nat),
 ∃ (x_9 : Bool),
 ∃ (x_10 : Bool),
 ∃ (x_11 : Bool),
 ∃ (x_12 : Bool),
 AtL w'_1 b (o + x_3.toNat * 42)
 (arrI IntKind.u8 f 32 0 ++ [Value.int IntKind.i64 x_5, Value.int IntKind.i64 x_6,
 Value.slice p n_7 c, Value.int IntKind.i64 x_7,
 Value.int IntKind.i64 x_8, Value.slice p_1 n_8 c_1,
 Value.bool x_9, Value.bool x_10, Value.bool x_11,
 Value.bool x_12]) ∧
 ∀ (n_9 : Nat) (W : World),
 Loc w.heap.size
 [Blk.mk n_9 109
 (arrI IntKind.u8 f 32 0 ++ [Value.int IntKind.i64 x_5, Value.int IntKind.i64 x_6,
 Value.slice p n_7 c, Value.int IntKind.i64 x_7,
 Value.int IntKind.i64 x_8, Value.slice p_1 n_8 c_1,
 Value.bool x_9, Value.bool x_10, Value.bool x_11,
 Value.bool x_12])
 (wrM 2)]
 w'_1 W →
 ∃ (S : World → Prop),
 S W ∧
 ∃ (x_13 : Option Addr),
 (∀ (w' : World),
 S w' →
 w'.cell? (Addr.mk n 0 none) = some (Value.pointer x_13)) ∧
 ∃ (x_14 : Option Addr),
 (∀ (w' : World),
 S w' →
 w'.cell? (Addr.mk n 0 none) = some (Value.pointer x_14)) ∧
 nn true x_14 fun (b o : Nat) =>
 ∃ (p_2 : Option Addr),
 ∃ (n_10 : Nat),
 ∃ (c_2 : Nat),
 (∀ (w' : World),
 S w' →
 w'.cell? (Addr.mk b o none) =
 some (Value.slice p_2 n_10 c_2)) ∧
 CallsS Try.prog 62
 #[Value.slice p_2 n_10 c_2, Value.int IntKind.i64 x_3,
 Value.int IntKind.i64 (IntKind.i64.wrap (x_3 + 1))]
 W fun (e : Ending) (w' : World) =>
 ∃ (p_3 : Option Addr),
 ∃ (n_11 : Nat),
 ∃ (c_3 : Nat),
 e = Ending.returned (Value.slice p_3 n_11 c_3) ∧
 S w' ∧
 nn true x_13 fun (b o : Nat) =>
 ((∃ (u : Value),
 w'.cell? (Addr.mk b o none) = some u) ∧
 w'.frozen? (Addr.mk b o none) = false) ∧
 ∀ (w1 : World),
 PutB w' b o [Value.slice p_3 n_11 c_3] w1 →
 KeptL [n_9] W w1 ∧
 ∃ (x_15 : Option Addr),
 (∀ (W : World),
 Loc w.heap.size
 [Blk.mk n_9 109
 (arrI IntKind.u8 f 32 0 ++ [Value.int IntKind.i64 x_5,
 Value.int IntKind.i64 x_6,
 Value.slice p n_7 c,
 Value.int IntKind.i64 x_7,
 Value.int IntKind.i64 x_8,
 Value.slice p_1 n_8 c_1,
 Value.bool x_9, Value.bool x_10,
 Value.bool x_11, Value.bool x_12])
 0]
 w1 W →
 W.cell? (Addr.mk n 0 none) =
 some (Value.pointer x_15)) ∧
 nn true x_15 fun (b o : Nat) =>
 ∃ (x_16 : Option Nat),
 (∀ (W : World),
 Loc w.heap.size
 [Blk.mk n_9 109
 (arrI IntKind.u8 f 32 0 ++ [Value.int IntKind.i64 x_5,
 Value.int IntKind.i64 x_6,
 Value.slice p n_7 c,
 Value.int IntKind.i64 x_7,
 Value.int IntKind.i64 x_8,
 Value.slice p_1 n_8 c_1,
 Value.bool x_9, Value.bool x_10,
 Value.bool x_11, Value.bool x_12])
 0]
 w1 W →
 W.cell? (Addr.mk b (o + 1) none) =
 some (Value.map x_16)) ∧
 ∀ (W : World),
 Loc w.heap.size
 [Blk.mk n_9 109
 (arrI IntKind.u8 f 32 0 ++ [Value.int IntKind.i64 x_5,
 Value.int IntKind.i64 x_6,
 Value.slice p n_7 c,
 Value.int IntKind.i64 x_7,
 Value.int IntKind.i64 x_8,
 Value.slice p_1 n_8 c_1,
 Value.bool x_9, Value.bool x_10,
 Value.bool x_11, Value.bool x_12])
 0]
 w1 W →
 ∃ (w1 : World),
 BltP Try.prog Builtin.delete
 [97, 38]
 [Value.map x_16,
 Value.agg
 (arrI IntKind.u8 f 32 0).toArray]
 W w1 ∧
 KeptL [n_9] W w1 ∧
 ∃ (x_17 : Option Addr),
 (∀ (W : World),
 Loc w.heap.size
 [Blk.mk n_9 109
 (arrI IntKind.u8 f 32 0 ++ [Value.int IntKind.i64 x_5,
 Value.int IntKind.i64 x_6,
 Value.slice p n_7 c,
 Value.int IntKind.i64 x_7,
 Value.int IntKind.i64 x_8,
 Value.slice p_1 n_8 c_1,
 Value.bool x_9,
 Value.bool x_10,
 Value.bool x_11,
 Value.bool x_12])
 0]
 w1 W →
 W.cell? (Addr.mk n 0 none) =
 some (Value.pointer x_17)) ∧
 nn true x_17 fun (b o : Nat) =>
 ∃ (x_18 : Int),
 (∀ (W : World),
 Loc w.heap.size
 [Blk.mk n_9 109
 (arrI IntKind.u8 f 32 0 ++ [Value.int IntKind.i64
 x_5,
 Value.int IntKind.i64
 x_6,
 Value.slice p n_7 c,
 Value.int IntKind.i64
 x_7,
 Value.int IntKind.i64
 x_8,
 Value.slice p_1 n_8
 c_1,
 Value.bool x_9,
 Value.bool x_10,
 Value.bool x_11,
 Value.bool x_12])
 0]
 w1 W →
 W.cell?
 (Addr.mk b (o + 2)
 none) =
 some
 (Value.int IntKind.i64
 x_18)) ∧
 nn true x_17
 fun (b o : Nat) =>
 ∀ (W : World),
 Loc w.heap.size
 [Blk.mk n_9 109
 (arrI IntKind.u8 f 32 0 ++ [Value.int IntKind.i64
 x_5,
 Value.int IntKind.i64
 x_6,
 Value.slice p n_7 c,
 Value.int IntKind.i64
 x_7,
 Value.int IntKind.i64
 x_8,
 Value.slice p_1 n_8
 c_1,
 Value.bool x_9,
 Value.bool x_10,
 Value.bool x_11,
 Value.bool x_12])
 0]
 w1 W →
 ((∃ (u : Value),
 W.cell?
 (Addr.mk b (o + 2)
 none) =
 some u) ∧
 W.frozen?
 (Addr.mk b (o + 2)
 none) =
 false) ∧
 ∀ (w1 : World),
 PutB W b (o + 2)
 [Value.int IntKind.i64
 (IntKind.i64.wrap
 (x_18 - x_7))]
 w1 →
 KeptL [n_9] W w1 ∧
 nn true x
 fun (b o : Nat) =>
 ∃ (x : Int),
 w1.cell?
 (Addr.mk b o
 none) =
 some
 (Value.int
 IntKind.i64 x) ∧
 WrL w1 n_1 0 33 ∧
 ∀ (w1_1 : World),
 PutB w1 n_1 0
 (arrI IntKind.u8 f 32 0 ++ [Value.int
 IntKind.i64
 x])
 w1_1 →
 KeptL [n_9] w1
 w1_1 ∧
 ∃ (f :
 Nat → Int),
 ∃ (x : Int),
 AtL w1_1 n_1
 0
 (arrI IntKind.u8 f 32 0 ++ [Value.int
 IntKind.i64
 x]) ∧
 R
 (Ending.returned
 (Value.tuple
 #[Value.agg
 (arrI IntKind.u8 f 32 0 ++ [Value.int
 IntKind.i64
 x]).toArray,
 Value.bool
 true]))
 w1_1))
 (WrL w' n_1 0 33 ∧
 ∀ (w1 : World),
 PutB w' n_1 0
 [Value.int IntKind.u8 0, Value.int IntKind.u8 0, Value.int IntKind.u8 0, Value.int IntKind.u8 0,
 Value.int IntKind.u8 0, Value.int IntKind.u8 0, Value.int IntKind.u8 0, Value.int IntKind.u8 0,
 Value.int IntKind.u8 0, Value.int IntKind.u8 0, Value.int IntKind.u8 0, Value.int IntKind.u8 0,
 Value.int IntKind.u8 0, Value.int IntKind.u8 0, Value.int IntKind.u8 0, Value.int IntKind.u8 0,
 Value.int IntKind.u8 0, Value.int IntKind.u8 0, Value.int IntKind.u8 0, Value.int IntKind.u8 0,
 Value.int IntKind.u8 0, Value.int IntKind.u8 0, Value.int IntKind.u8 0, Value.int IntKind.u8 0,
 Value.int IntKind.u8 0, Value.int IntKind.u8 0, Value.int IntKind.u8 0, Value.int IntKind.u8 0,
 Value.int IntKind.u8 0, Value.int IntKind.u8 0, Value.int IntKind.u8 0, Value.int IntKind.u8 0,
 Value.int IntKind.i64 0]
 w1 →
 KeptL [] w' w1 ∧
 ∃ (f : Nat → Int),
 ∃ (x : Int),
 AtL w1 n_1 0
 (arrI IntKind.u8 f 32 0 ++ [Value.int IntKind.i64 x]) ∧
 R
 (Ending.returned
 (Value.tuple
 #[Value.agg
 (arrI IntKind.u8 f 32 0 ++ [Value.int IntKind.i64 x]).toArray,
 Value.bool false]))
 w1)
theorem vc_estep (b : Nat) (o : Nat) (w : World) (R : Ending → World → Prop) (h : VC_estep b o w R) : Calls Try.prog 32 ([Value.pointer
    (some { block := b, off := o })] : List Value).toArray w R := by
  have e : execR2 { P := Try.prog, loops := [(3, [(5, .ptr)])], pur := pur2, tails := [(8, 8), (9, 7), (10, 10)], joins := [], boxes := [] } Try.f32.results.toList R (Try.f32.body.getD .skip) (initF [Value.pointer
    (some
      { block := b,
        off :=
          o })] (Try.f32.ntmps - ([Value.pointer
    (some { block := b, off := o })] : List Value).length)) w = VC_estep b o w R := by kernel_rfl
  have hb : Try.f32.body = some (Try.f32.body.getD .skip) := by kernel_rfl
  exact calls_of_exec2' (P := Try.prog) (fn := Try.f32) (c := Try.f32.body.getD .skip) (args := [Value.pointer
    (some { block := b, off := o })]) (w := w) (R := R) pur2_ok Try.func32 hb e h

def VC_estep1 (id : Nat → Int) (dt : Int) (ar : Int) (gp : Option Addr) (gn : Nat) (gc : Nat) (by_ : Int) (ct : Int) (hp : Option Addr) (hn : Nat) (hc : Nat) (wd : Bool) (fx : Bool) (ov : Bool) (my : Bool) (w : World) (R : Ending → World → Prop) : Prop :=
 ∀ (n : Nat),
 ∃ (x : Int),
 gimp wd
 (∀ (W : World),
 Loc w.heap.size
 [Blk.mk n 109
 (arrI IntKind.u8 id 32 0 ++ [Value.int IntKind.i64 dt,
 Value.int IntKind.i64 ar, Value.slice gp gn gc, Value.int IntKind.i64 by_, Value.int IntKind.i64 ct,
 Value.slice hp hn hc, Value.bool wd, Value.bool fx, Value.bool ov, Value.bool my])
 2]
 w W →
 W.cell? (Addr.mk n (0 + 36) none) = some (Value.int IntKind.i64 x)) ∧
 ∀ (W : World),
 Loc w.heap.size
 [Blk.mk n 109
 (arrI IntKind.u8 id 32 0 ++ [Value.int IntKind.i64 dt, Value.int IntKind.i64 ar,
 Value.slice gp gn gc, Value.int IntKind.i64 by_, Value.int IntKind.i64 ct, Value.slice hp hn hc, Value.bool wd,
 Value.bool fx, Value.bool ov, Value.bool my])
 2]
 w W →
 R (Ending.returned (Value.bool (wd && x == 0))) W
theorem vc_estep1 (id : Nat → Int) (dt : Int) (ar : Int) (gp : Option Addr) (gn : Nat) (gc : Nat) (by_ : Int) (ct : Int) (hp : Option Addr) (hn : Nat) (hc : Nat) (wd : Bool) (fx : Bool) (ov : Bool) (my : Bool) (w : World) (R : Ending → World → Prop) (h : VC_estep1 id dt ar gp gn gc by_ ct hp hn hc wd fx ov my w R) : Calls Try.prog 56 ([Value.agg
    (arrI IntKind.u8 id 32 0 ++
        [Value.int IntKind.i64 dt, Value.int IntKind.i64 ar, Value.slice gp gn gc, Value.int IntKind.i64 by_,
          Value.int IntKind.i64 ct, Value.slice hp hn hc, Value.bool wd, Value.bool fx, Value.bool ov,
          Value.bool my]).toArray] : List Value).toArray w R := by
  have e : execR2 { P := Try.prog, loops := [], pur := pur2, tails := [], joins := [], boxes := [] } Try.f56.results.toList R (Try.f56.body.getD .skip) (initF [Value.agg
    (arrI IntKind.u8 id 32 0 ++
        [Value.int IntKind.i64 dt, Value.int IntKind.i64 ar, Value.slice gp gn gc, Value.int IntKind.i64 by_,
          Value.int IntKind.i64 ct, Value.slice hp hn hc, Value.bool wd, Value.bool fx, Value.bool ov,
          Value.bool
            my]).toArray] (Try.f56.ntmps - ([Value.agg
    (arrI IntKind.u8 id 32 0 ++
        [Value.int IntKind.i64 dt, Value.int IntKind.i64 ar, Value.slice gp gn gc, Value.int IntKind.i64 by_,
          Value.int IntKind.i64 ct, Value.slice hp hn hc, Value.bool wd, Value.bool fx, Value.bool ov,
          Value.bool
            my]).toArray] : List Value).length)) w = VC_estep1 id dt ar gp gn gc by_ ct hp hn hc wd fx ov my w R := by kernel_rfl
  have hb : Try.f56.body = some (Try.f56.body.getD .skip) := by kernel_rfl
  exact calls_of_exec2' (P := Try.prog) (fn := Try.f56) (c := Try.f56.body.getD .skip) (args := [Value.agg
    (arrI IntKind.u8 id 32 0 ++
        [Value.int IntKind.i64 dt, Value.int IntKind.i64 ar, Value.slice gp gn gc, Value.int IntKind.i64 by_,
          Value.int IntKind.i64 ct, Value.slice hp hn hc, Value.bool wd, Value.bool fx, Value.bool ov,
          Value.bool my]).toArray]) (w := w) (R := R) pur2_ok Try.func56 hb e h

def VC_estep2 (id : Nat → Int) (dt : Int) (ar : Int) (gp : Option Addr) (gn : Nat) (gc : Nat) (by_ : Int) (ct : Int) (hp : Option Addr) (hn : Nat) (hc : Nat) (wd : Bool) (fx : Bool) (ov : Bool) (my : Bool) (w : World) (R : Ending → World → Prop) : Prop :=
 ∀ (n : Nat) (W : World),
 Loc w.heap.size
 [Blk.mk n 109
 (arrI IntKind.u8 id 32 0 ++ [Value.int IntKind.i64 dt, Value.int IntKind.i64 ar,
 Value.slice gp gn gc, Value.int IntKind.i64 by_, Value.int IntKind.i64 ct, Value.slice hp hn hc, Value.bool wd,
 Value.bool fx, Value.bool ov, Value.bool my])
 2]
 w W →
 R (Ending.returned (Value.bool ov)) W
theorem vc_estep2 (id : Nat → Int) (dt : Int) (ar : Int) (gp : Option Addr) (gn : Nat) (gc : Nat) (by_ : Int) (ct : Int) (hp : Option Addr) (hn : Nat) (hc : Nat) (wd : Bool) (fx : Bool) (ov : Bool) (my : Bool) (w : World) (R : Ending → World → Prop) (h : VC_estep2 id dt ar gp gn gc by_ ct hp hn hc wd fx ov my w R) : Calls Try.prog 57 ([Value.agg
    (arrI IntKind.u8 id 32 0 ++
        [Value.int IntKind.i64 dt, Value.int IntKind.i64 ar, Value.slice gp gn gc, Value.int IntKind.i64 by_,
          Value.int IntKind.i64 ct, Value.slice hp hn hc, Value.bool wd, Value.bool fx, Value.bool ov,
          Value.bool my]).toArray] : List Value).toArray w R := by
  have e : execR2 { P := Try.prog, loops := [], pur := pur2, tails := [], joins := [], boxes := [] } Try.f57.results.toList R (Try.f57.body.getD .skip) (initF [Value.agg
    (arrI IntKind.u8 id 32 0 ++
        [Value.int IntKind.i64 dt, Value.int IntKind.i64 ar, Value.slice gp gn gc, Value.int IntKind.i64 by_,
          Value.int IntKind.i64 ct, Value.slice hp hn hc, Value.bool wd, Value.bool fx, Value.bool ov,
          Value.bool
            my]).toArray] (Try.f57.ntmps - ([Value.agg
    (arrI IntKind.u8 id 32 0 ++
        [Value.int IntKind.i64 dt, Value.int IntKind.i64 ar, Value.slice gp gn gc, Value.int IntKind.i64 by_,
          Value.int IntKind.i64 ct, Value.slice hp hn hc, Value.bool wd, Value.bool fx, Value.bool ov,
          Value.bool
            my]).toArray] : List Value).length)) w = VC_estep2 id dt ar gp gn gc by_ ct hp hn hc wd fx ov my w R := by kernel_rfl
  have hb : Try.f57.body = some (Try.f57.body.getD .skip) := by kernel_rfl
  exact calls_of_exec2' (P := Try.prog) (fn := Try.f57) (c := Try.f57.body.getD .skip) (args := [Value.agg
    (arrI IntKind.u8 id 32 0 ++
        [Value.int IntKind.i64 dt, Value.int IntKind.i64 ar, Value.slice gp gn gc, Value.int IntKind.i64 by_,
          Value.int IntKind.i64 ct, Value.slice hp hn hc, Value.bool wd, Value.bool fx, Value.bool ov,
          Value.bool my]).toArray]) (w := w) (R := R) pur2_ok Try.func57 hb e h

def VC_estep3 (id : Nat → Int) (dt : Int) (ar : Int) (gp : Option Addr) (gn : Nat) (gc : Nat) (by_ : Int) (ct : Int) (hp : Option Addr) (hn : Nat) (hc : Nat) (wd : Bool) (fx : Bool) (ov : Bool) (my : Bool) (b : Nat) (o : Nat) (w : World) (R : Ending → World → Prop) : Prop :=
 ∀ (n : Nat),
 ∃ (x : Option Addr),
 (∀ (W : World),
 Loc w.heap.size
 [Blk.mk n 109
 (arrI IntKind.u8 id 32 0 ++ [Value.int IntKind.i64 dt, Value.int IntKind.i64 ar,
 Value.slice gp gn gc, Value.int IntKind.i64 by_, Value.int IntKind.i64 ct, Value.slice hp hn hc, Value.bool wd,
 Value.bool fx, Value.bool ov, Value.bool my])
 2]
 w W →
 W.cell? (Addr.mk b o none) = some (Value.pointer x)) ∧
 nn true x fun (b_1 o_1 : Nat) =>
 ∃ (x : Int),
 (∀ (W : World),
 Loc w.heap.size
 [Blk.mk n 109
 (arrI IntKind.u8 id 32 0 ++ [Value.int IntKind.i64 dt,
 Value.int IntKind.i64 ar, Value.slice gp gn gc, Value.int IntKind.i64 by_, Value.int IntKind.i64 ct,
 Value.slice hp hn hc, Value.bool wd, Value.bool fx, Value.bool ov, Value.bool my])
 2]
 w W →
 W.cell? (Addr.mk b_1 (o_1 + 2) none) = some (Value.int IntKind.i64 x)) ∧
 ∃ (x_1 : Option Addr),
 (∀ (W : World),
 Loc w.heap.size
 [Blk.mk n 109
 (arrI IntKind.u8 id 32 0 ++ [Value.int IntKind.i64 dt,
 Value.int IntKind.i64 ar, Value.slice gp gn gc, Value.int IntKind.i64 by_, Value.int IntKind.i64 ct,
 Value.slice hp hn hc, Value.bool wd, Value.bool fx, Value.bool ov, Value.bool my])
 2]
 w W →
 W.cell? (Addr.mk b o none) = some (Value.pointer x_1)) ∧
 nn true x_1 fun (b o : Nat) =>
 ∃ (x_2 : Int),
 (∀ (W : World),
 Loc w.heap.size
 [Blk.mk n 109
 (arrI IntKind.u8 id 32 0 ++ [Value.int IntKind.i64 dt,
 Value.int IntKind.i64 ar, Value.slice gp gn gc, Value.int IntKind.i64 by_, Value.int IntKind.i64 ct,
 Value.slice hp hn hc, Value.bool wd, Value.bool fx, Value.bool ov, Value.bool my])
 2]
 w W →
 W.cell? (Addr.mk b (o + 3) none) = some (Value.int IntKind.i64 x_2)) ∧
 ∃ (x_3 : Bool),
 gimp (decide (x > x_2))
 (∀ (W : World),
 Loc w.heap.size
 [Blk.mk n 109
 (arrI IntKind.u8 id 32 0 ++ [Value.int IntKind.i64 dt,
 Value.int IntKind.i64 ar, Value.slice gp gn gc, Value.int IntKind.i64 by_, Value.int IntKind.i64 ct,
 Value.slice hp hn hc, Value.bool wd, Value.bool fx, Value.bool ov, Value.bool my])
 2]
 w W →
 W.cell? (Addr.mk n (0 + 41) none) = some (Value.bool x_3)) ∧
 ∀ (W : World),
 Loc w.heap.size
 [Blk.mk n 109
 (arrI IntKind.u8 id 32 0 ++ [Value.int IntKind.i64 dt,
 Value.int IntKind.i64 ar, Value.slice gp gn gc, Value.int IntKind.i64 by_, Value.int IntKind.i64 ct,
 Value.slice hp hn hc, Value.bool wd, Value.bool fx, Value.bool ov, Value.bool my])
 2]
 w W →
 R (Ending.returned (Value.bool (decide (x > x_2) && x_3))) W
theorem vc_estep3 (id : Nat → Int) (dt : Int) (ar : Int) (gp : Option Addr) (gn : Nat) (gc : Nat) (by_ : Int) (ct : Int) (hp : Option Addr) (hn : Nat) (hc : Nat) (wd : Bool) (fx : Bool) (ov : Bool) (my : Bool) (b : Nat) (o : Nat) (w : World) (R : Ending → World → Prop) (h : VC_estep3 id dt ar gp gn gc by_ ct hp hn hc wd fx ov my b o w R) : Calls Try.prog 58 ([Value.agg
    (arrI IntKind.u8 id 32 0 ++
        [Value.int IntKind.i64 dt, Value.int IntKind.i64 ar, Value.slice gp gn gc, Value.int IntKind.i64 by_,
          Value.int IntKind.i64 ct, Value.slice hp hn hc, Value.bool wd, Value.bool fx, Value.bool ov,
          Value.bool my]).toArray,
  Value.pointer (some { block := b, off := o })] : List Value).toArray w R := by
  have e : execR2 { P := Try.prog, loops := [], pur := pur2, tails := [], joins := [], boxes := [] } Try.f58.results.toList R (Try.f58.body.getD .skip) (initF [Value.agg
    (arrI IntKind.u8 id 32 0 ++
        [Value.int IntKind.i64 dt, Value.int IntKind.i64 ar, Value.slice gp gn gc, Value.int IntKind.i64 by_,
          Value.int IntKind.i64 ct, Value.slice hp hn hc, Value.bool wd, Value.bool fx, Value.bool ov,
          Value.bool my]).toArray,
  Value.pointer
    (some
      { block := b,
        off :=
          o })] (Try.f58.ntmps - ([Value.agg
    (arrI IntKind.u8 id 32 0 ++
        [Value.int IntKind.i64 dt, Value.int IntKind.i64 ar, Value.slice gp gn gc, Value.int IntKind.i64 by_,
          Value.int IntKind.i64 ct, Value.slice hp hn hc, Value.bool wd, Value.bool fx, Value.bool ov,
          Value.bool my]).toArray,
  Value.pointer
    (some
      { block := b,
        off :=
          o })] : List Value).length)) w = VC_estep3 id dt ar gp gn gc by_ ct hp hn hc wd fx ov my b o w R := by kernel_rfl
  have hb : Try.f58.body = some (Try.f58.body.getD .skip) := by kernel_rfl
  exact calls_of_exec2' (P := Try.prog) (fn := Try.f58) (c := Try.f58.body.getD .skip) (args := [Value.agg
    (arrI IntKind.u8 id 32 0 ++
        [Value.int IntKind.i64 dt, Value.int IntKind.i64 ar, Value.slice gp gn gc, Value.int IntKind.i64 by_,
          Value.int IntKind.i64 ct, Value.slice hp hn hc, Value.bool wd, Value.bool fx, Value.bool ov,
          Value.bool my]).toArray,
  Value.pointer (some { block := b, off := o })]) (w := w) (R := R) pur2_ok Try.func58 hb e h

end Go.Proofs.Ytmjanmffnblcoaa

/- The formulas of functions by the symbolic evaluator, and that each gives the call's contract. Written by a program (gen.py). No condition. -/
namespace Go.Proofs.Ytmjanmffnblcoaa
set_option maxRecDepth 100000
set_option linter.unusedVariables false

def VC_estep4 (id : Nat → Int) (dt : Int) (ar : Int) (gp : Option Addr) (gn : Nat) (gc : Nat) (by_ : Int) (ct : Int) (hp : Option Addr) (hn : Nat) (hc : Nat) (wd : Bool) (fx : Bool) (ov : Bool) (my : Bool) (b : Nat) (o : Nat) (b1 : Nat) (o1 : Nat) (b2 : Nat) (o2 : Nat) (w : World) (R : Ending → World → Prop) : Prop :=
 ∀ (n : Nat) (W : World),
 Loc w.heap.size
 [Blk.mk n 109
 (arrI IntKind.u8 id 32 0 ++ [Value.int IntKind.i64 dt, Value.int IntKind.i64 ar,
 Value.slice gp gn gc, Value.int IntKind.i64 by_, Value.int IntKind.i64 ct, Value.slice hp hn hc, Value.bool wd,
 Value.bool fx, Value.bool ov, Value.bool my])
 2]
 w W →
 ∃ (S : World → Prop),
 S W ∧
 ∃ (p : Option Addr),
 ∃ (n_1 : Nat),
 ∃ (c : Nat),
 (∀ (w' : World), S w' → w'.cell? (Addr.mk b o none) = some (Value.slice p n_1 c)) ∧
 ∃ (x : Int),
 (∀ (w' : World), S w' → w'.cell? (Addr.mk b1 o1 none) = some (Value.int IntKind.i64 x)) ∧
 nn true p fun (b o : Nat) =>
 (0 ≤ x ∧ x < (↑n_1 : Int)) ∧
 ∃ (x_1 : Value),
 (∀ (w' : World), S w' → w'.cell? (Addr.mk b (o + x.toNat) none) = some x_1) ∧
 ∃ (f : Nat → Int),
 ∃ (x : Int),
 ∃ (x_2 : Int),
 ∃ (p : Option Addr),
 ∃ (n_2 : Nat),
 ∃ (c : Nat),
 ∃ (x_3 : Int),
 ∃ (x_4 : Int),
 ∃ (p_1 : Option Addr),
 ∃ (n_3 : Nat),
 ∃ (c_1 : Nat),
 ∃ (x_5 : Bool),
 ∃ (x_6 : Bool),
 ∃ (x_7 : Bool),
 ∃ (x_8 : Bool),
 (∀ (w' : World),
 S w' →
 AtL w' n 0
 (arrI IntKind.u8 f 32 0 ++ [Value.int IntKind.i64 x,
 Value.int IntKind.i64 x_2, Value.slice p n_2 c, Value.int IntKind.i64 x_3,
 Value.int IntKind.i64 x_4, Value.slice p_1 n_3 c_1, Value.bool x_5, Value.bool x_6,
 Value.bool x_7, Value.bool x_8])) ∧
 ∃ (f_1 : Nat),
 ∃ (a : Array Value),
 ∃ (b : Array Value),
 x_1 = Value.func (Fn.func f_1) a b ∧
 okFn Try.prog f_1 = true ∧
 CallsS Try.prog f_1
 (appA a
 [Value.agg
 (arrI IntKind.u8 f 32 0 ++ [Value.int IntKind.i64 x, Value.int IntKind.i64 x_2, Value.slice p n_2 c,
 Value.int IntKind.i64 x_3, Value.int IntKind.i64 x_4, Value.slice p_1 n_3 c_1,
 Value.bool x_5, Value.bool x_6, Value.bool x_7, Value.bool x_8]).toArray]
 b)
 W fun (e : Ending) (w' : World) =>
 ∃ (x : Bool),
 e = Ending.returned (Value.bool x) ∧
 S w' ∧
 ∃ (x_9 : Option Addr),
 gimp x
 (∀ (w' : World),
 S w' → w'.cell? (Addr.mk b2 o2 none) = some (Value.pointer x_9)) ∧
 ∃ (f : Nat → Int),
 ∃ (x_10 : Int),
 ∃ (x_11 : Int),
 ∃ (p : Option Addr),
 ∃ (n_4 : Nat),
 ∃ (c : Nat),
 ∃ (x_12 : Int),
 ∃ (x_13 : Int),
 ∃ (p_2 : Option Addr),
 ∃ (n_5 : Nat),
 ∃ (c_2 : Nat),
 ∃ (x_14 : Bool),
 ∃ (x_15 : Bool),
 ∃ (x_16 : Bool),
 ∃ (x_17 : Bool),
 gimp x
 (∀ (w' : World),
 S w' →
 AtL w' n 0
 (arrI IntKind.u8 f 32 0 ++ [Value.int IntKind.i64 x_10, Value.int IntKind.i64 x_11,
 Value.slice p n_4 c, Value.int IntKind.i64 x_12,
 Value.int IntKind.i64 x_13, Value.slice p_2 n_5 c_2,
 Value.bool x_14, Value.bool x_15, Value.bool x_16,
 Value.bool x_17])) ∧
 bsp x
 (CallsS Try.prog 61
 #[Value.pointer x_9,
 Value.agg
 (arrI IntKind.u8 f 32 0 ++ [Value.int IntKind.i64 x_10, Value.int IntKind.i64 x_11,
 Value.slice p n_4 c, Value.int IntKind.i64 x_12,
 Value.int IntKind.i64 x_13, Value.slice p_2 n_5 c_2,
 Value.bool x_14, Value.bool x_15, Value.bool x_16,
 Value.bool x_17]).toArray]
 w' fun (e : Ending) (w' : World) =>
 ∃ (x : Bool),
 e = Ending.returned (Value.bool x) ∧
 KeptL [n] W w' ∧
 R (Ending.returned (Value.bool (true && !x))) w')
 (KeptL [n] W w' ∧ R (Ending.returned (Value.bool false)) w')
theorem vc_estep4 (id : Nat → Int) (dt : Int) (ar : Int) (gp : Option Addr) (gn : Nat) (gc : Nat) (by_ : Int) (ct : Int) (hp : Option Addr) (hn : Nat) (hc : Nat) (wd : Bool) (fx : Bool) (ov : Bool) (my : Bool) (b : Nat) (o : Nat) (b1 : Nat) (o1 : Nat) (b2 : Nat) (o2 : Nat) (w : World) (R : Ending → World → Prop) (h : VC_estep4 id dt ar gp gn gc by_ ct hp hn hc wd fx ov my b o b1 o1 b2 o2 w R) : Calls Try.prog 60 ([Value.agg
    (arrI IntKind.u8 id 32 0 ++
        [Value.int IntKind.i64 dt, Value.int IntKind.i64 ar, Value.slice gp gn gc, Value.int IntKind.i64 by_,
          Value.int IntKind.i64 ct, Value.slice hp hn hc, Value.bool wd, Value.bool fx, Value.bool ov,
          Value.bool my]).toArray,
  Value.pointer (some { block := b, off := o }), Value.pointer (some { block := b1, off := o1 }),
  Value.pointer (some { block := b2, off := o2 })] : List Value).toArray w R := by
  have e : execR2 { P := Try.prog, loops := [], pur := pur2, tails := [(1, 5)], joins := [], boxes := [] } Try.f60.results.toList R (Try.f60.body.getD .skip) (initF [Value.agg
    (arrI IntKind.u8 id 32 0 ++
        [Value.int IntKind.i64 dt, Value.int IntKind.i64 ar, Value.slice gp gn gc, Value.int IntKind.i64 by_,
          Value.int IntKind.i64 ct, Value.slice hp hn hc, Value.bool wd, Value.bool fx, Value.bool ov,
          Value.bool my]).toArray,
  Value.pointer (some { block := b, off := o }), Value.pointer (some { block := b1, off := o1 }),
  Value.pointer
    (some
      { block := b2,
        off :=
          o2 })] (Try.f60.ntmps - ([Value.agg
    (arrI IntKind.u8 id 32 0 ++
        [Value.int IntKind.i64 dt, Value.int IntKind.i64 ar, Value.slice gp gn gc, Value.int IntKind.i64 by_,
          Value.int IntKind.i64 ct, Value.slice hp hn hc, Value.bool wd, Value.bool fx, Value.bool ov,
          Value.bool my]).toArray,
  Value.pointer (some { block := b, off := o }), Value.pointer (some { block := b1, off := o1 }),
  Value.pointer
    (some
      { block := b2,
        off :=
          o2 })] : List Value).length)) w = VC_estep4 id dt ar gp gn gc by_ ct hp hn hc wd fx ov my b o b1 o1 b2 o2 w R := by kernel_rfl
  have hb : Try.f60.body = some (Try.f60.body.getD .skip) := by kernel_rfl
  exact calls_of_exec2' (P := Try.prog) (fn := Try.f60) (c := Try.f60.body.getD .skip) (args := [Value.agg
    (arrI IntKind.u8 id 32 0 ++
        [Value.int IntKind.i64 dt, Value.int IntKind.i64 ar, Value.slice gp gn gc, Value.int IntKind.i64 by_,
          Value.int IntKind.i64 ct, Value.slice hp hn hc, Value.bool wd, Value.bool fx, Value.bool ov,
          Value.bool my]).toArray,
  Value.pointer (some { block := b, off := o }), Value.pointer (some { block := b1, off := o1 }),
  Value.pointer (some { block := b2, off := o2 })]) (w := w) (R := R) pur2_ok Try.func60 hb e h

end Go.Proofs.Ytmjanmffnblcoaa

/- Chapter 42: the contracts of protected, of the closures of step, and of step. No condition but sizes. -/
namespace Go.Proofs.Ytmjanmffnblcoaa
open Go.RowKit Go.Sort Go.Maps

theorem nn_at {g : Bool} {b o : Nat} {K : Nat → Nat → Prop} (h : K b o) : nn g (some ⟨b, o, none⟩) K := h
section
variable {w0 w : World} {b : Nat} {p : Option Addr} {c mb : Nat} {tot budget : Int} {l : List CX} {ids : List (List Int)}
/-- A box that holds the planner's address. -/
abbrev PBox (w : World) (n b : Nat) : Prop := w.heap[n]? = some (.cells #[.pointer (some ⟨b, 0, none⟩)] 77 (0, 0))
theorem eprot1_any (h : PlR w0 w b p c mb tot budget l ids) {n : Nat} (hn : PBox w n b) (f : Nat → Int) (hf : ∀ j, 0 ≤ f j ∧ f j ≤ 255) :
    Calls Try.prog 74 #[.agg (arrI .u8 f 32 0).toArray, .pointer (some ⟨n, 0, none⟩)] w fun e w' => e = .returned (.bool (decide (idI f ∈ ids))) ∧ K0 w w' := by
  refine vc_eprot1 f n 0 w _ ?_
  intro n1
  refine ⟨some ⟨b, 0, none⟩, fun W hW => cell_at ((hW.kk rfl).blk hn (fun h => h)) rfl, nn_at ⟨some mb, fun W hW => cell_at ((hW.kk rfl).blk h.blk (fun h => h)) rfl, decide (idI f ∈ ids), fun W hW => ?_, fun W hW => ⟨rfl, hW.kk rfl⟩⟩⟩
  obtain ⟨ml, hm, hi⟩ := (h.k (hW.kk rfl)).map
  have := MapB.look byA_inj hm idKeyed Try.underlying97 (zeroBool W) (idKey (idI_len f) (idI_bd hf)) false
  simp only at this
  by_cases hh : idI f ∈ ids
  · rw [(hi _).1 hh] at this
    rw [decide_eq_true hh]
    exact this
  · rw [(hi _).2 hh] at this
    rw [decide_eq_false hh]
    exact this
def protC (ids : List (List Int)) (y : CX) : Bool := y.fx || y.a.hs.any fun h => decide (idI h ∈ ids)
theorem eprot_any (h : PlR w0 w b p c mb tot budget l ids) (y : CX) (hy : AXR w0 y.a) (hok : ArOK y.a) :
    Calls Try.prog 61 #[.pointer (some ⟨b, 0, none⟩), .agg (cxC y).toArray] w fun e w' => e = .returned (.bool (protC ids y)) ∧ K0 w w' := by
  refine vc_eprot b 0 y.a.id y.a.dt y.a.ar y.a.gp y.a.gs.length y.a.gc y.a.by_ y.a.ct y.a.hp y.a.hs.length y.a.hc y.a.wd y.fx y.ov y.my w _ ?_
  intro n n1
  refine ⟨y.a.id, y.a.dt, y.a.ar, y.a.gp, y.a.gs.length, y.a.gc, y.a.by_, y.a.ct, y.a.hp, y.a.hs.length, y.a.hc, y.a.wd, gimp_intro fun _ W hW => AtL_block (hW.cells 0 rfl) rfl, fun W hW => ?_⟩
  have kW : K0 w W := hW.kk rfl
  have hn := hW.cells 1 rfl
  refine bsp_intro (fun hfx => ?_) (fun hfx => ⟨.refl _ _, ?_, kW⟩)
  · have hfx : y.fx = false := by simpa using hfx
    refine ⟨(eheld_any y.a 74 #[] #[.pointer (some ⟨n, 0, none⟩)] (fun g => decide (idI g ∈ ids)) W (hy.hs.k0 (h.k0.trans kW)) hok.hl (by kernel_rfl) (fun g hg w1 k1 => eprot1_any ((h.k kW).k k1) (k1.blk hn (fun h => h)) g (hok.hs g hg))).mono fun e w2 ⟨he, k2⟩ => ⟨_, he, .of_k0 k2, ?_, kW.trans k2⟩⟩
    unfold protC
    rw [hfx]
  · have hfx : y.fx = true := by simpa using hfx
    unfold protC
    rw [hfx, Bool.true_or]
theorem estep1_any (y : CX) (w : World) : Calls Try.prog 56 #[.agg (cxC y).toArray] w fun e w' => e = .returned (.bool (y.a.wd && y.a.ct == 0)) ∧ K0 w w' := by
  refine vc_estep1 y.a.id y.a.dt y.a.ar y.a.gp y.a.gs.length y.a.gc y.a.by_ y.a.ct y.a.hp y.a.hs.length y.a.hc y.a.wd y.fx y.ov y.my w _ ?_
  intro n
  exact ⟨y.a.ct, gimp_intro fun _ W hW => cell_at (hW.cells 0 rfl) rfl, fun W hW => ⟨rfl, hW.kk rfl⟩⟩
theorem estep2_any (y : CX) (w : World) : Calls Try.prog 57 #[.agg (cxC y).toArray] w fun e w' => e = .returned (.bool y.ov) ∧ K0 w w' := by
  refine vc_estep2 y.a.id y.a.dt y.a.ar y.a.gp y.a.gs.length y.a.gc y.a.by_ y.a.ct y.a.hp y.a.hs.length y.a.hc y.a.wd y.fx y.ov y.my w _ ?_
  intro n W hW
  exact ⟨rfl, hW.kk rfl⟩
theorem estep3_any (h : PlR w0 w b p c mb tot budget l ids) {n : Nat} (hn : PBox w n b) (y : CX) : Calls Try.prog 58 #[.agg (cxC y).toArray, .pointer (some ⟨n, 0, none⟩)] w fun e w' => e = .returned (.bool (decide (budget < tot) && y.my)) ∧ K0 w w' := by
  refine vc_estep3 y.a.id y.a.dt y.a.ar y.a.gp y.a.gs.length y.a.gc y.a.by_ y.a.ct y.a.hp y.a.hs.length y.a.hc y.a.wd y.fx y.ov y.my n 0 w _ ?_
  intro n1
  exact ⟨some ⟨b, 0, none⟩, fun W hW => cell_at ((hW.kk rfl).blk hn (fun h => h)) rfl, nn_at ⟨tot, fun W hW => cell_at ((hW.kk rfl).blk h.blk (fun h => h)) rfl, some ⟨b, 0, none⟩, fun W hW => cell_at ((hW.kk rfl).blk hn (fun h => h)) rfl, nn_at ⟨budget, fun W hW => cell_at ((hW.kk rfl).blk h.blk (fun h => h)) rfl, y.my, gimp_intro fun _ W hW => cell_at (hW.cells 0 rfl) rfl, fun W hW => ⟨rfl, hW.kk rfl⟩⟩⟩⟩
def reasC (tot budget : Int) (k : Nat) (y : CX) : Bool := match k with
  | 1 => y.a.wd && y.a.ct == 0
  | 2 => y.ov
  | _ => decide (budget < tot) && y.my
def goC (tot budget : Int) (ids : List (List Int)) (k : Nat) (y : CX) : Bool := reasC tot budget k y && !protC ids y
/-- What step makes: the box of the receiver, the reasons, their box. -/
structure StE (w : World) (n n2 n3 b : Nat) : Prop where
  bx : PBox w n b
  rs : w.heap[n2]? = some (.cells #[.nilFunc, .func (.func 56) #[] #[], .func (.func 57) #[] #[], .func (.func 58) #[] #[.pointer (some ⟨n, 0, none⟩)]] 115 (0, 0))
  rb : w.heap[n3]? = some (.cells #[.slice (some ⟨n2, 0, none⟩) 4 4] 116 (0, 0))
theorem StE.k {w w' : World} {n n2 n3 b : Nat} (h : StE w n n2 n3 b) (hk : K0 w w') : StE w' n n2 n3 b := ⟨hk.blk h.bx (fun h => h), hk.blk h.rs (fun h => h), hk.blk h.rb (fun h => h)⟩
set_option maxRecDepth 100000 in
theorem estep4_any (h : PlR w0 w b p c mb tot budget l ids) {n n2 n3 n4 k : Nat} (hE : StE w n n2 n3 b) (hk : w.heap[n4]? = some (.cells #[.int .i64 (k : Int)] 3 (0, 0))) (hk1 : 1 ≤ k) (hk3 : k ≤ 3) (y : CX) (hy : AXR w0 y.a) (hok : ArOK y.a) :
    Calls Try.prog 60 #[.agg (cxC y).toArray, .pointer (some ⟨n3, 0, none⟩), .pointer (some ⟨n4, 0, none⟩), .pointer (some ⟨n, 0, none⟩)] w fun e w' => e = .returned (.bool (goC tot budget ids k y)) ∧ K0 w w' := by
  refine vc_estep4 y.a.id y.a.dt y.a.ar y.a.gp y.a.gs.length y.a.gc y.a.by_ y.a.ct y.a.hp y.a.hs.length y.a.hc y.a.wd y.fx y.ov y.my n3 0 n4 0 n 0 w _ ?_
  intro n5 W hW
  have kW : K0 w W := hW.kk rfl
  have hEW := hE.k kW
  have hkW := kW.blk hk (fun h => h)
  have hy5 := hW.cells 0 rfl
  have hpl := h.k kW
  refine ⟨fun wx => K0 W wx, .refl _ _, some ⟨n2, 0, none⟩, 4, 4, fun wx kx => cell_at (kx.blk hEW.rb (fun h => h)) rfl, (k : Int), fun wx kx => cell_at (kx.blk hkW (fun h => h)) rfl, nn_at ?_⟩
  refine ⟨by omega, ?_⟩
  rw [Int.toNat_natCast]
  have tail : ∀ (x : Bool) (w1 : World), x = reasC tot budget k y → K0 W w1 → K0 W w1 ∧ ∃ (x_9 : Option Addr), gimp x (∀ (w' : World), K0 W w' → w'.cell? (Addr.mk n 0 none) = some (.pointer x_9)) ∧ ∃ (f : Nat → Int) (x_10 x_11 : Int) (p : Option Addr) (n_4 c : Nat) (x_12 x_13 : Int) (p_2 : Option Addr) (n_5 c_2 : Nat) (x_14 x_15 x_16 x_17 : Bool), gimp x (∀ (w' : World), K0 W w' → AtL w' n5 0 (arrI .u8 f 32 0 ++ ([.int .i64 x_10, .int .i64 x_11, .slice p n_4 c, .int .i64 x_12, .int .i64 x_13, .slice p_2 n_5 c_2, .bool x_14, .bool x_15, .bool x_16, .bool x_17] : List Value))) ∧
      bsp x (CallsS Try.prog 61 #[.pointer x_9, .agg (arrI .u8 f 32 0 ++ ([.int .i64 x_10, .int .i64 x_11, .slice p n_4 c, .int .i64 x_12, .int .i64 x_13, .slice p_2 n_5 c_2, .bool x_14, .bool x_15, .bool x_16, .bool x_17] : List Value)).toArray] w1 fun (e : Ending) (w' : World) => ∃ (x : Bool), e = .returned (.bool x) ∧ KeptL [n5] W w' ∧ ((Ending.returned (.bool (true && !x)) = .returned (.bool (goC tot budget ids k y))) ∧ K0 w w'))
        (KeptL [n5] W w1 ∧ ((Ending.returned (.bool false) = .returned (.bool (goC tot budget ids k y))) ∧ K0 w w1)) := by
    intro x w1 hx k1
    refine ⟨k1, some ⟨b, 0, none⟩, gimp_intro fun _ wx kx => cell_at (kx.blk hEW.bx (fun h => h)) rfl, y.a.id, y.a.dt, y.a.ar, y.a.gp, y.a.gs.length, y.a.gc, y.a.by_, y.a.ct, y.a.hp, y.a.hs.length, y.a.hc, y.a.wd, y.fx, y.ov, y.my, gimp_intro fun _ wx kx => AtL_block (kx.blk hy5 (fun h => h)) rfl, bsp_intro (fun hxt => ?_) (fun hxf => ⟨.of_k0 k1, ?_, kW.trans k1⟩)⟩
    · refine ⟨(eprot_any (hpl.k k1) y hy hok).mono fun e w2 ⟨he, k2⟩ => ⟨_, he, .of_k0 (k1.trans k2), ?_, (kW.trans k1).trans k2⟩⟩
      unfold goC
      rw [← hx, hxt]
    · unfold goC
      rw [← hx, hxf, Bool.false_and]
  rcases (show k = 1 ∨ k = 2 ∨ k = 3 by omega) with rfl | rfl | rfl
  · refine ⟨_, fun wx kx => cell_at (kx.blk hEW.rs (fun h => h)) rfl, y.a.id, y.a.dt, y.a.ar, y.a.gp, y.a.gs.length, y.a.gc, y.a.by_, y.a.ct, y.a.hp, y.a.hs.length, y.a.hc, y.a.wd, y.fx, y.ov, y.my, fun wx kx => AtL_block (kx.blk hy5 (fun h => h)) rfl, _, #[], #[], rfl, by kernel_rfl, ?_⟩
    exact ⟨(estep1_any y W).mono fun e w1 ⟨he, k1⟩ => ⟨_, he, tail _ w1 rfl k1⟩⟩
  · refine ⟨_, fun wx kx => cell_at (kx.blk hEW.rs (fun h => h)) rfl, y.a.id, y.a.dt, y.a.ar, y.a.gp, y.a.gs.length, y.a.gc, y.a.by_, y.a.ct, y.a.hp, y.a.hs.length, y.a.hc, y.a.wd, y.fx, y.ov, y.my, fun wx kx => AtL_block (kx.blk hy5 (fun h => h)) rfl, _, #[], #[], rfl, by kernel_rfl, ?_⟩
    exact ⟨(estep2_any y W).mono fun e w1 ⟨he, k1⟩ => ⟨_, he, tail _ w1 rfl k1⟩⟩
  · refine ⟨_, fun wx kx => cell_at (kx.blk hEW.rs (fun h => h)) rfl, y.a.id, y.a.dt, y.a.ar, y.a.gp, y.a.gs.length, y.a.gc, y.a.by_, y.a.ct, y.a.hp, y.a.hs.length, y.a.hc, y.a.wd, y.fx, y.ov, y.my, fun wx kx => AtL_block (kx.blk hy5 (fun h => h)) rfl, _, #[], #[.pointer (some ⟨n, 0, none⟩)], rfl, by kernel_rfl, ?_⟩
    exact ⟨(estep3_any hpl hEW.bx y).mono fun e w1 ⟨he, k1⟩ => ⟨_, he, tail _ w1 rfl k1⟩⟩
end

end Go.Proofs.Ytmjanmffnblcoaa

/- Chapter 42: the contract of step. No condition but sizes. -/
namespace Go.Proofs.Ytmjanmffnblcoaa
open Go.RowKit Go.Sort Go.Maps

/-- What step takes: the number and the kind. -/
def pickI (tot budget : Int) (ids : List (List Int)) (l : List CX) : Option (Nat × Nat) := match l.findIdx? (goC tot budget ids 1) with
  | some i => some (i, 1)
  | none => match l.findIdx? (goC tot budget ids 2) with
    | some i => some (i, 2)
    | none => match l.findIdx? (goC tot budget ids 3) with
      | some i => some (i, 3)
      | none => none
theorem pickI_hit {tot budget : Int} {ids : List (List Int)} {l : List CX} {k i : Nat} (h1 : 1 ≤ k) (h3 : k ≤ 3) (hno : ∀ j, 1 ≤ j → j < k → l.findIdx? (goC tot budget ids j) = none) (hi : l.findIdx? (goC tot budget ids k) = some i) : pickI tot budget ids l = some (i, k) := by
  unfold pickI
  rcases (show k = 1 ∨ k = 2 ∨ k = 3 by omega) with rfl | rfl | rfl
  · rw [hi]
  · rw [hno 1 (by omega) (by omega), hi]
  · rw [hno 1 (by omega) (by omega), hno 2 (by omega) (by omega), hi]
theorem pickI_miss {tot budget : Int} {ids : List (List Int)} {l : List CX} (hno : ∀ j, 1 ≤ j → j < 4 → l.findIdx? (goC tot budget ids j) = none) : pickI tot budget ids l = none := by
  unfold pickI
  rw [hno 1 (by omega) (by omega), hno 2 (by omega) (by omega), hno 3 (by omega) (by omega)]
theorem nn_eq {g : Bool} {p : Option Addr} {b o : Nat} {K : Nat → Nat → Prop} (hp : p = some ⟨b, o, none⟩) (h : K b o) : nn g p K := by subst hp; exact h
def without' (ids : List (List Int)) (i : List Int) : List (List Int) := ids.filter fun j => !decide (j = i)
def whyL (f : Nat → Int) (k : Int) : List Value := arrI .u8 f 32 0 ++ ([.int .i64 k] : List Value)

set_option maxRecDepth 100000 in
set_option maxHeartbeats 2000000 in
theorem estep_any {w0 w : World} {b : Nat} {p : Option Addr} {c mb : Nat} {tot budget : Int} {l : List CX} {ids : List (List Int)} (h : PlR w0 w b p c mb tot budget l ids) (hok : ∀ y ∈ l, ArOK y.a) (hl : l.length ≤ 1000) (ht : -1125899906842624 ≤ tot ∧ tot ≤ 1152921504606846976) :
    Calls Try.prog 32 #[.pointer (some ⟨b, 0, none⟩)] w fun e w' =>
      (pickI tot budget ids l = none ∧ e = .returned (.tuple #[.agg (whyL (fun _ => 0) 0).toArray, .bool false]) ∧ K0 w w') ∨
      (∃ (i k : Nat) (y : CX), pickI tot budget ids l = some (i, k) ∧ l[i]? = some y ∧ e = .returned (.tuple #[.agg (whyL y.a.id (k : Int)).toArray, .bool true]) ∧
        PlR w0 w' b p c mb (tot - y.a.by_) budget (l.eraseIdx i) (without' ids (idI y.a.id)) ∧ Kp (fun j => j = b ∨ j = mb ∨ (Value.slice p l.length c).ownBlock = some j) w w') := by
  refine vc_estep b 0 w _ ?_
  intro n n1 W hW n2 n3 W1 hW1 n4 W2 hW2
  have kW : K0 w W := hW.kk rfl
  have kW1 : K0 W W1 := hW1.kk rfl
  have kW2 : K0 W1 W2 := hW2.kk rfl
  have kw2 : K0 w W2 := (kW.trans kW1).trans kW2
  have g1 : w.heap.size ≤ n1 := hW.fresh 0 rfl rfl
  have hbn : PBox W2 n b := kW2.blk (kW1.blk (hW.cells 1 rfl) (fun h => h)) (fun h => h)
  have hE2 : StE W2 n n2 n3 b := ⟨hbn, kW2.blk (hW1.cells 1 rfl) (fun h => h), hW2.cells 1 rfl⟩
  refine ⟨fun vs w' => ∃ (k m : Nat), vs = [.pointer (some ⟨m, 0, none⟩)] ∧ 1 ≤ k ∧ k ≤ 4 ∧ (∀ j, 1 ≤ j → j < k → l.findIdx? (goC tot budget ids j) = none) ∧ w'.heap[m]? = some (.cells #[.int .i64 (k : Int)] 3 (0, 0)) ∧ StE w' n n2 n3 b ∧ w'.heap[n1]? = some (.cells (whyL (fun _ => 0) 0).toArray 44 (0, 0)) ∧ K0 w w',
    fun vs w' => (match vs with | .pointer (some a) :: _ => (match w'.cell? a with | some (.int _ k) => 4 - k.toNat | _ => 0) | _ => 0), ⟨1, n4, rfl, by omega, by omega, (fun j h1 h2 => by omega), hW2.cells 0 rfl, hE2, hW2.cells 2 rfl, kw2⟩, ?_⟩
  rintro x w3 ⟨k, m, hv, hk1, hk4, hno, hbm, hE, hbn1, kw3⟩
  simp only [List.cons.injEq, Value.pointer.injEq, and_true] at hv
  subst hv
  have hpl := h.k kw3
  refine nn_at ⟨(k : Int), cell_at hbm rfl, bsp_intro (fun hk3 => ?_) (fun hk3 => ?_)⟩
  · have hk3 : k ≤ 3 := by simp at hk3; omega
    refine ⟨some ⟨b, 0, none⟩, cell_at hE.bx rfl, nn_at ⟨p, l.length, c, cell_at hpl.blk rfl, ?_⟩⟩
    refine ⟨(eidxC_any l p c 60 #[] #[.pointer (some ⟨n3, 0, none⟩), .pointer (some ⟨m, 0, none⟩), .pointer (some ⟨n, 0, none⟩)] (goC tot budget ids k) w3 (RowA.own hpl.own cxC_length (by decide)) (by omega) (by kernel_rfl) (fun y hy w4 k4 => estep4_any (hpl.k k4) (hE.k k4) (k4.blk hbm (fun h => h)) hk1 hk3 y (h.art y hy) (hok y hy))).mono fun e w4 ⟨he, k4⟩ => ⟨_, he, .of_k0 k4, ?_⟩⟩
    have kw4 := kw3.trans k4
    have hpl4 := h.k kw4
    have hE4 := hE.k k4
    have hbm4 := k4.blk hbm (fun h => h)
    have hbn14 := k4.blk hbn1 (fun h => h)
    cases hf : l.findIdx? (goC tot budget ids k) with
    | none =>
      have e1 : fiR (goC tot budget ids k) l = -1 := by unfold fiR; rw [hf]
      rw [e1]
      refine bsp_intro (fun _ => ?_) (fun h => by simp at h)
      refine nn_at ⟨(k : Int), cell_at hbm4 rfl, fun n5 W5 hW5 => ?_⟩
      have k5 : K0 w4 W5 := hW5.kk rfl
      have hb5 := hW5.cells 0 rfl
      rw [inc64 (by omega)] at hb5
      refine ⟨⟨k + 1, n5, rfl, by omega, by omega, fun j h1 h2 => ?_, hb5, hE4.k k5, k5.blk hbn14 (fun h => h), kw4.trans k5⟩, ?_⟩
      · rcases Nat.lt_or_ge j k with hj | hj
        · exact hno j h1 hj
        · rw [show j = k by omega]; exact hf
      · have c1 : W5.cell? ⟨n5, 0, none⟩ = some (.int .i64 ((k + 1 : Nat) : Int)) := cell_at hb5 rfl
        have c2 : w3.cell? ⟨m, 0, none⟩ = some (.int .i64 (k : Int)) := cell_at hbm rfl
        simp only [c1, c2]
        omega
    | some i =>
      have e1 : fiR (goC tot budget ids k) l = (i : Int) := by unfold fiR; rw [hf]
      have hil : i < l.length := by rw [List.findIdx?_eq_some_iff_getElem] at hf; exact hf.1
      have hpick := pickI_hit hk1 hk3 hno hf
      obtain ⟨y, b', o', hy, hp', hat⟩ := (RowA.own hpl4.own cxC_length (by decide)).get hil
      have hyl := List.mem_of_getElem? hy
      have oky := hok y hyl
      rw [e1]
      refine bsp_intro (fun h => by exfalso; simp at h; omega) (fun _ => ?_)
      refine ⟨some ⟨b, 0, none⟩, cell_at hE4.bx rfl, nn_at ⟨p, l.length, c, cell_at hpl4.blk rfl, ?_⟩⟩
      refine nn_eq hp' ⟨by omega, ?_⟩
      rw [Int.toNat_natCast]
      refine ⟨y.a.id, y.a.dt, y.a.ar, y.a.gp, y.a.gs.length, y.a.gc, y.a.by_, y.a.ct, y.a.hp, y.a.hs.length, y.a.hc, y.a.wd, y.fx, y.ov, y.my, hat, fun n9 W9 hW9 => ?_⟩
      have k9 : K0 w4 W9 := hW9.kk rfl
      have hpl9 := hpl4.k k9
      have hE9 := hE4.k k9
      have hb9 := hpl9.blk
      have hbn19 := k9.blk hbn14 (fun h => h)
      have hbm9 := k9.blk hbm4 (fun h => h)
      have hc9 := hW9.cells 0 rfl
      refine ⟨fun wx => wx.heap[n]? = W9.heap[n]? ∧ wx.heap[b]? = W9.heap[b]?, ⟨rfl, rfl⟩, some ⟨b, 0, none⟩, fun wx hx => cell_at (hx.1.trans hE9.bx) rfl, some ⟨b, 0, none⟩, fun wx hx => cell_at (hx.1.trans hE9.bx) rfl, nn_at ⟨p, l.length, c, fun wx hx => cell_at (hx.2.trans hb9) rfl, ?_⟩⟩
      rw [inc64 (by omega)]
      refine ⟨(edelete_any l p c i W9 hpl9.own hil (by omega)).mono fun e w10 ⟨he, ho10, k10⟩ => ⟨_, _, _, he, ?_⟩⟩
      have nb : ¬ (Value.slice p l.length c).ownBlock = some b := own_not hpl9.own hb9 rfl
      have nn' : ¬ (Value.slice p l.length c).ownBlock = some n := own_not hpl9.own hE9.bx rfl
      have n1r : ¬ (Value.slice p l.length c).ownBlock = some n1 := own_not hpl9.own hbn19 rfl
      have nmr : ¬ (Value.slice p l.length c).ownBlock = some m := own_not hpl9.own hbm9 rfl
      have hb10 := k10.blk hb9 nb
      refine ⟨⟨k10.block n (block_lt hE9.bx) nn', k10.block b (block_lt hb9) nb⟩, nn_at ⟨cell_wr2 hb10 rfl, fun w11 hp11 => ?_⟩⟩
      have hb11 := hp11.block hb10
      have hbx10 := k10.blk hE9.bx nn'
      have nbn : n ≠ b := blk_ne hbx10 hb10 rfl
      have hbx11 := hp11.blk hbx10 nbn
      have n9r : ¬ (Value.slice p l.length c).ownBlock = some n9 := fun e => by
        have h1 := own_lt hpl4.own e
        have h2 := hW9.fresh 0 rfl rfl
        simp only at h2
        omega
      have hc10 := k10.blk hc9 n9r
      have n9b : n9 ≠ b := blk_ne hc10 hb10 rfl
      have hc11 := hp11.blk hc10 n9b
      have hbn110 := k10.blk hbn19 n1r
      have n1b : n1 ≠ b := blk_ne hbn110 hb10 rfl
      have hbn111 := hp11.blk hbn110 n1b
      have hbm10 := k10.blk hbm9 nmr
      have nmb : m ≠ b := blk_ne hbm10 hb10 rfl
      have hbm11 := hp11.blk hbm10 nmb
      have kk11 : Kp (fun j => j = b ∨ j = mb ∨ (Value.slice p l.length c).ownBlock = some j) W9 w11 := (k10.mono fun _ _ h => .inr (.inr h)).trans (hp11.kp.mono fun _ _ h => .inl h)
      obtain ⟨es, cl, hmb⟩ := hpl9.mapAt
      have mbr : ¬ (Value.slice p l.length c).ownBlock = some mb := own_notMap hpl9.own hmb
      have mbb : b ≠ mb := blk_neMap hb9 hmb
      have hmb11 := hp11.blk (k10.blk hmb mbr) mbb.symm
      refine ⟨.of_kp kk11 (fun z hz => ?_), some ⟨b, 0, none⟩, fun W12 hW12 => cell_at ((hW12.kk rfl).blk hbx11 (fun h => h)) rfl, nn_at ⟨some mb, fun W12 hW12 => cell_at ((hW12.kk rfl).blk hb11 (fun h => h)) rfl, fun W12 hW12 => ?_⟩⟩
      · simp at hz
        subst hz
        rintro (e | e | e)
        · exact n9b e
        · exact blk_neMap hc9 hmb e
        · exact n9r e
      have k12 : K0 w11 W12 := hW12.kk rfl
      obtain ⟨ml, hm, hmi⟩ := hpl9.map
      have hm12 := ((hm.kp k10 mbr).kp hp11.kp mbb.symm).kp k12 (fun h => h)
      obtain ⟨w13, hbl, hm13, k13⟩ := MapB.del byA_inj hm12 idKeyed Try.underlying97 (idKey (idI_len y.a.id) (idI_bd oky.id))
      have hmb12 := k12.blk hmb11 (fun h => h)
      have hb12 := k12.blk hb11 (fun h => h)
      have hb13 := k13.blk hb12 mbb
      have hbx13 := k13.blk (k12.blk hbx11 (fun h => h)) (blk_neMap (k12.blk hbx11 (fun h => h)) hmb12)
      have hc12 := hW12.cells 0 rfl
      have n9m : n9 ≠ mb := blk_neMap hc12 hmb12
      refine ⟨w13, hbl, .of_kp k13 (fun z hz => by simp at hz; subst hz; exact n9m), some ⟨b, 0, none⟩, fun W14 hW14 => cell_at ((hW14.kk rfl).blk hbx13 (fun h => h)) rfl, nn_at ⟨tot, fun W14 hW14 => cell_at ((hW14.kk rfl).blk hb13 (fun h => h)) rfl, nn_at (fun W14 hW14 => ?_)⟩⟩
      have k14 : K0 w13 W14 := hW14.kk rfl
      have hb14 := k14.blk hb13 (fun h => h)
      have hc14 := hW14.cells 0 rfl
      refine ⟨cell_wr2 hb14 rfl, fun w15 hp15 => ⟨put_kept hp15 (fun z hz => by simp at hz; subst hz; exact blk_ne hc14 hb14 rfl), nn_at ?_⟩⟩
      have hbm12 := k12.blk hbm11 (fun h => h)
      have hbm14 := k14.blk (k13.blk hbm12 (blk_neMap hbm12 hmb12)) (fun h => h)
      have hbm15 := hp15.blk hbm14 nmb
      have hbn112 := k12.blk hbn111 (fun h => h)
      have hbn114 := k14.blk (k13.blk hbn112 (blk_neMap hbn112 hmb12)) (fun h => h)
      have hbn115 := hp15.blk hbn114 n1b
      have hb15 := hp15.block hb14
      have hc15 := hp15.blk hc14 (blk_ne hc14 hb14 rfl)
      refine ⟨(k : Int), cell_at hbm15 rfl, WrL_block hbn115 (Nat.le_refl 33), fun w16 hp16 => ?_⟩
      have hn91 : n9 ≠ n1 := blk_ne hc15 hbn115 rfl
      have kAll : Kp (fun j => j = b ∨ j = mb ∨ (Value.slice p l.length c).ownBlock = some j) w w16 := by
        have a1 : Kp (fun j => j = b ∨ j = mb ∨ (Value.slice p l.length c).ownBlock = some j) w W9 := (kw4.trans k9).mono fun _ _ h => h.elim
        have a2 := a1.trans kk11
        have a3 := a2.trans (k12.mono fun _ _ h => h.elim)
        have a4 := a3.trans (k13.mono fun _ _ h => .inr (.inl h))
        have a5 := a4.trans (k14.mono fun _ _ h => h.elim)
        have a6 := a5.trans (hp15.kp.mono fun _ _ h => .inl h)
        exact Kp.fresh a6 hp16.kp (fun j hj e => by omega)
      refine ⟨put_kept hp16 (fun z hz => by simp at hz; subst hz; exact hn91), y.a.id, (k : Int), AtL_block (hp16.full hbn115 rfl) rfl, .inr ⟨i, k, y, hpick, hy, rfl, ?_, ?_⟩⟩
      -- the planner as it is now
      · have hel : (l.eraseIdx i).length = l.length - 1 := List.length_eraseIdx_of_lt hil
        have hb16 := hp16.blk hb15 n1b.symm
        have by_ := oky.by_
        have ho11 := owns_kp ho10 hp11.kp (fun j hj e => by subst e; exact own_not ho10 hb10 rfl hj)
        have ho12 := owns_kp ho11 k12 (fun _ _ h => h)
        have ho13 := owns_kp ho12 k13 (fun j hj e => by subst e; exact own_notMap ho12 hmb12 hj)
        have ho14 := owns_kp ho13 k14 (fun _ _ h => h)
        have ho15 := owns_kp ho14 hp15.kp (fun j hj e => by subst e; exact own_not ho14 hb14 rfl hj)
        have ho16 := owns_kp ho15 hp16.kp (fun j hj e => by subst e; exact own_not ho15 hbn115 rfl hj)
        have hmb15 : n1 ≠ mb := blk_neMap hbn112 hmb12
        have hm16 := ((hm13.kp k14 (fun h => h)).kp hp15.kp mbb.symm).kp hp16.kp hmb15.symm
        refine ⟨?_, ho16, ⟨_, hm16, fun j => ?_⟩, fun z hz => h.art z (List.mem_of_mem_eraseIdx hz), ?_, h.hb, h.hmb⟩
        · have ew : IntKind.i64.wrap (tot - y.a.by_) = tot - y.a.by_ := wr64 (by omega) (by omega)
          rw [ew] at hb16
          exact hb16
        · rw [aget_adel]
          obtain ⟨m1, m2⟩ := hmi j
          unfold without'
          refine ⟨fun hj => ?_, fun hj => ?_⟩
          · obtain ⟨h1, h2⟩ := List.mem_filter.1 hj
            have h2 : ¬ j = idI y.a.id := by simpa using h2
            rw [if_neg (fun e => h2 e.symm)]
            exact m1 h1
          · by_cases e : idI y.a.id = j
            · rw [if_pos e]
            · rw [if_neg e]
              exact m2 fun h' => hj (List.mem_filter.2 ⟨h', by simpa using fun e' => e e'.symm⟩)
        · exact Kp.fresh h.k0 kAll (fun j hj e => by
            rcases e with e | e | e
            · have := h.hb; omega
            · have := h.hmb; omega
            · have := own_ge h.own e; omega)
      · exact kAll
  · have hk : k = 4 := by simp at hk3; omega
    subst hk
    refine ⟨WrL_block hbn1 (Nat.le_refl 33), fun w4 hp => ⟨.of_kp hp.kp (fun z hz => by cases hz), fun _ => 0, 0, AtL_block (hp.full hbn1 rfl) rfl, .inl ⟨pickI_miss hno, rfl, put_k0 kw3 hp g1⟩⟩⟩

end Go.Proofs.Ytmjanmffnblcoaa

/- The formulas of functions by the symbolic evaluator, and that each gives the call's contract. Written by a program (gen.py). No condition. -/
namespace Go.Proofs.Ytmjanmffnblcoaa
set_option maxRecDepth 100000
set_option linter.unusedVariables false

def VC_eplan (p : Option Addr) (n : Nat) (c : Nat) (q : Option Addr) (k : Nat) (d : Nat) (now : Int) (budget : Int) (w : World) (R : Ending → World → Prop) : Prop :=
 CallsS Try.prog 28 #[Value.slice p n c] w fun (e : Ending) (w' : World) =>
 ∃ (p : Option Addr),
 ∃ (n : Nat),
 ∃ (c : Nat),
 ∃ (p_1 : Option Addr),
 ∃ (n_1 : Nat),
 ∃ (c_1 : Nat),
 ∃ (x : Int),
 e =
 Ending.returned
 (Value.tuple #[Value.agg #[Value.slice p n c, Value.slice p_1 n_1 c_1], Value.int IntKind.i64 x]) ∧
 KeptL [] w w' ∧
 ∀ (n_2 : Nat),
 bsp (x != 0)
 (∀ (W : World),
 Loc w.heap.size [Blk.mk n_2 72 [Value.slice p n c, Value.slice p_1 n_1 c_1] (wrM 2)] w' W →
 R (Ending.returned (Value.tuple #[Value.slice none 0 0, Value.int IntKind.i64 x])) W)
 (bsp (!minB now || decide (budget < 0))
 (∀ (W : World),
 Loc w.heap.size [Blk.mk n_2 72 [Value.slice p n c, Value.slice p_1 n_1 c_1] (wrM 2)] w' W →
 R (Ending.returned (Value.tuple #[Value.slice none 0 0, Value.int IntKind.i64 2])) W)
 (∀ (W : World),
 Loc w.heap.size [Blk.mk n_2 72 [Value.slice p n c, Value.slice p_1 n_1 c_1] (wrM 2)] w' W →
 CallsS Try.prog 30 #[Value.slice q k d] W fun (e : Ending) (w' : World) =>
 ∃ (x : Int),
 e = Ending.returned (Value.int IntKind.i64 x) ∧
 KeptL [n_2] W w' ∧
 bsp (x != 0) (R (Ending.returned (Value.tuple #[Value.slice none 0 0, Value.int IntKind.i64 x])) w')
 (CallsS Try.prog 31
 #[Value.agg #[Value.slice p n c, Value.slice p_1 n_1 c_1], Value.slice q k d,
 Value.int IntKind.i64 now, Value.int IntKind.i64 budget]
 w' fun (e : Ending) (w'_1 : World) =>
 ∃ (x : Option Addr),
 e = Ending.returned (Value.pointer x) ∧
 KeptL [n_2] w' w'_1 ∧
 ∃ (I : List Value → World → Prop),
 ∃ (m : List Value → World → Nat),
 I [Value.slice none 0 0] w'_1 ∧
 ∀ (p_2 : Option Addr) (n_3 c_2 : Nat) (w' : World),
 I [Value.slice p_2 n_3 c_2] w' →
 Loc w.heap.size [Blk.mk n_2 72 [Value.slice p n c, Value.slice p_1 n_1 c_1] 0] w' w' →
 CallsS Try.prog 32 #[Value.pointer x] w' fun (e : Ending) (w'_2 : World) =>
 ∃ (f : Nat → Int),
 ∃ (x : Int),
 ∃ (x_1 : Bool),
 e =
 Ending.returned
 (Value.tuple
 #[Value.agg
 (arrI IntKind.u8 f 32 0 ++ [Value.int IntKind.i64 x]).toArray,
 Value.bool x_1]) ∧
 KeptL [n_2] w' w'_2 ∧
 ∀ (n_4 : Nat),
 bsp (!x_1)
 (∀ (W : World),
 Loc w.heap.size
 [Blk.mk n_2 72 [Value.slice p n c, Value.slice p_1 n_1 c_1] 0,
 Blk.mk n_4 44
 (arrI IntKind.u8 f 32 0 ++ [Value.int IntKind.i64 x])
 (wrM 2)]
 w'_2 W →
 R
 (Ending.returned
 (Value.tuple #[Value.slice p_2 n_3 c_2, Value.int IntKind.i64 0]))
 W)
 (∀ (n_5 : Nat) (W : World),
 Loc w.heap.size
 [Blk.mk n_2 72 [Value.slice p n c, Value.slice p_1 n_1 c_1] 0,
 Blk.mk n_5 44
 (arrI IntKind.u8 f 32 0 ++ [Value.int IntKind.i64 x])
 2,
 Blk.mk n_4 44
 (arrI IntKind.u8 f 32 0 ++ [Value.int IntKind.i64 x])
 (wrM 2)]
 w'_2 W →
 ∃ (base : Nat),
 ∃ (xs : List Value),
 W.ownsRow base 44 33 (Value.slice p_2 n_3 c_2) n_3 xs ∧
 n_3 + 1 ≤ 9223372036854775807 ∧
 (n_3 + 1) * 40 ≤ 140737488355328 ∧
 base ≤ W.heap.size ∧
 ∀ (p' : Option Addr) (c' : Nat) (w'_3 : World),
 w'_3.ownsRow base 44 33 (Value.slice p' (n_3 + 1) c') (n_3 + 1)
 (xs ++
 (arrI IntKind.u8 f 32 0 ++ [Value.int IntKind.i64 x])) →
 W.grownBy w'_3 (Value.slice p_2 n_3 c_2).ownBlock →
 (n_3 + 1 ≤ c_2 → p' = p_2 ∧ c' = c_2) →
 KeptL [n_2, n_4] W w'_3 ∧
 I [Value.slice p' (n_3 + 1) c'] w'_3 ∧
 m [Value.slice p' (n_3 + 1) c'] w'_3 <
 m [Value.slice p_2 n_3 c_2] w'))))
theorem vc_eplan (p : Option Addr) (n : Nat) (c : Nat) (q : Option Addr) (k : Nat) (d : Nat) (now : Int) (budget : Int) (w : World) (R : Ending → World → Prop) (h : VC_eplan p n c q k d now budget w R) : Calls Try.prog 14 ([Value.slice
    p n c,
  Value.slice q k d, Value.int IntKind.i64 now, Value.int IntKind.i64 budget] : List Value).toArray w R := by
  have e : execR2 { P := Try.prog, loops := [(11, [(14, Ck.slice)])], pur := pur2, tails := [], joins := [], boxes := [] } Try.f14.results.toList R (Try.f14.body.getD .skip) (initF [Value.slice
    p n c,
  Value.slice q k d, Value.int IntKind.i64 now,
  Value.int IntKind.i64
    budget] (Try.f14.ntmps - ([Value.slice p n c, Value.slice q k d, Value.int IntKind.i64 now,
  Value.int IntKind.i64 budget] : List Value).length)) w = VC_eplan p n c q k d now budget w R := by kernel_rfl
  have hb : Try.f14.body = some (Try.f14.body.getD .skip) := by kernel_rfl
  exact calls_of_exec2' (P := Try.prog) (fn := Try.f14) (c := Try.f14.body.getD .skip) (args := [Value.slice p n c,
  Value.slice q k d, Value.int IntKind.i64 now,
  Value.int IntKind.i64 budget]) (w := w) (R := R) pur2_ok Try.func14 hb e h

def VC_eafter (p : Option Addr) (n : Nat) (c : Nat) (q : Option Addr) (k : Nat) (d : Nat) (w : World) (R : Ending → World → Prop) : Prop :=
 ∀ (n_1 : Nat) (w1 : World),
 NewB w (Obj.map #[] 0) n_1 w1 →
 KeptL [] w w1 ∧
 ∃ (I : List Value → World → Prop),
 ∃ (m : List Value → World → Nat),
 I [Value.int IntKind.i64 0] w1 ∧
 ∀ (x : Int) (w' : World),
 I [Value.int IntKind.i64 x] w' →
 bsp (decide (x < (↑k : Int)))
 (nn true q fun (b o : Nat) =>
 (0 ≤ x ∧ x < (↑k : Int)) ∧
 ∃ (f : Nat → Int),
 ∃ (x_1 : Int),
 AtL w' b (o + x.toNat * 33)
 (arrI IntKind.u8 f 32 0 ++ [Value.int IntKind.i64 x_1]) ∧
 ∀ (n : Nat) (W : World),
 Loc w.heap.size
 [Blk.mk n 44
 (arrI IntKind.u8 f 32 0 ++ [Value.int IntKind.i64 x_1])
 (wrM 2)]
 w' W →
 ∃ (w1 : World),
 UpdP Try.prog 97 (Value.map (some n_1))
 (Value.agg
 (arrI IntKind.u8 f 32 0).toArray)
 (Value.bool true) W w1 ∧
 KeptL [n] W w1 ∧
 I [Value.int IntKind.i64 (IntKind.i64.wrap (x + 1))] w1 ∧
 m [Value.int IntKind.i64 (IntKind.i64.wrap (x + 1))] w1 < m [Value.int IntKind.i64 x] w')
 (∃ (I : List Value → World → Prop),
 ∃ (m : List Value → World → Nat),
 I [Value.int IntKind.i64 0, Value.slice none 0 0] w' ∧
 ∀ (x : Int) (p_1 : Option Addr) (n_2 c : Nat) (w' : World),
 I [Value.int IntKind.i64 x, Value.slice p_1 n_2 c] w' →
 bsp (decide (x < (↑n : Int)))
 (nn true p fun (b o : Nat) =>
 (0 ≤ x ∧ x < (↑n : Int)) ∧
 ∃ (f : Nat → Int),
 ∃ (x_1 : Int),
 ∃ (x_2 : Int),
 ∃ (p : Option Addr),
 ∃ (n : Nat),
 ∃ (c_1 : Nat),
 ∃ (x_3 : Int),
 ∃ (x_4 : Int),
 ∃ (p_2 : Option Addr),
 ∃ (n_3 : Nat),
 ∃ (c_2 : Nat),
 ∃ (x_5 : Bool),
 AtL w' b (o + x.toNat * 39)
 (arrI IntKind.u8 f 32 0 ++ [Value.int IntKind.i64 x_1,
 Value.int IntKind.i64 x_2, Value.slice p n c_1, Value.int IntKind.i64 x_3,
 Value.int IntKind.i64 x_4, Value.slice p_2 n_3 c_2, Value.bool x_5]) ∧
 ∀ (n_4 : Nat),
 ∃ (x_6 : Bool),
 (∀ (W : World),
 Loc w.heap.size
 [Blk.mk n_4 42
 (arrI IntKind.u8 f 32 0 ++ [Value.int IntKind.i64 x_1, Value.int IntKind.i64 x_2, Value.slice p n c_1,
 Value.int IntKind.i64 x_3, Value.int IntKind.i64 x_4, Value.slice p_2 n_3 c_2,
 Value.bool x_5])
 (wrM 2)]
 w' W →
 LookP Try.prog 97 (Value.map (some n_1))
 (Value.agg
 (arrI IntKind.u8 f 32 0).toArray)
 false (Value.bool x_6) W) ∧
 bsp (!x_6)
 (∀ (W : World),
 Loc w.heap.size
 [Blk.mk n_4 42
 (arrI IntKind.u8 f 32 0 ++ [Value.int IntKind.i64 x_1, Value.int IntKind.i64 x_2, Value.slice p n c_1,
 Value.int IntKind.i64 x_3, Value.int IntKind.i64 x_4, Value.slice p_2 n_3 c_2,
 Value.bool x_5])
 (wrM 2)]
 w' W →
 ∃ (S : World → Prop),
 S W ∧
 ∃ (p : Option Addr),
 ∃ (n : Nat),
 ∃ (c_3 : Nat),
 (∀ (w' : World),
 S w' → w'.cell? (Addr.mk n_4 (0 + 34) none) = some (Value.slice p n c_3)) ∧
 ∃ (p_3 : Option Addr),
 ∃ (n_5 : Nat),
 ∃ (c_4 : Nat),
 (∀ (w' : World),
 S w' →
 w'.cell? (Addr.mk n_4 (0 + 37) none) = some (Value.slice p_3 n_5 c_4)) ∧
 CallsS Try.prog 43 #[Value.slice p n c_3] W
 fun (e : Ending) (w'_1 : World) =>
 ∃ (p : Option Addr),
 ∃ (n : Nat),
 ∃ (c_5 : Nat),
 e = Ending.returned (Value.slice p n c_5) ∧
 S w'_1 ∧
 CallsS Try.prog 44 #[Value.slice p_3 n_5 c_4] w'_1
 fun (e : Ending) (w'_2 : World) =>
 ∃ (p_4 : Option Addr),
 ∃ (n_6 : Nat),
 ∃ (c_6 : Nat),
 e = Ending.returned (Value.slice p_4 n_6 c_6) ∧
 ((∃ (u : Value),
 w'_2.cell? (Addr.mk n_4 (0 + 34) none) = some u) ∧
 w'_2.frozen? (Addr.mk n_4 (0 + 34) none) = false) ∧
 ∀ (w1 : World),
 PutB w'_2 n_4 (0 + 34) [Value.slice p n c_5] w1 →
 ((∃ (u : Value),
 w1.cell? (Addr.mk n_4 (0 + 37) none) = some u) ∧
 w1.frozen? (Addr.mk n_4 (0 + 37) none) = false) ∧
 ∀ (w1_1 : World),
 PutB w1 n_4 (0 + 37) [Value.slice p_4 n_6 c_6] w1_1 →
 KeptL [] W w1_1 ∧
 ∃ (f : Nat → Int),
 ∃ (x_7 : Int),
 ∃ (x_8 : Int),
 ∃ (p : Option Addr),
 ∃ (n : Nat),
 ∃ (c_7 : Nat),
 ∃ (x_9 : Int),
 ∃ (x_10 : Int),
 ∃ (p_5 : Option Addr),
 ∃ (n_7 : Nat),
 ∃ (c_8 : Nat),
 ∃ (x_11 : Bool),
 AtL w1_1 n_4 0
 (arrI IntKind.u8 f 32 0 ++ [Value.int IntKind.i64 x_7,
 Value.int IntKind.i64 x_8,
 Value.slice p n c_7,
 Value.int IntKind.i64 x_9,
 Value.int IntKind.i64 x_10,
 Value.slice p_5 n_7 c_8,
 Value.bool x_11]) ∧
 ∀ (n_8 : Nat) (W : World),
 Loc w.heap.size
 [Blk.mk n_8 42
 (arrI IntKind.u8 f 32 0 ++ [Value.int IntKind.i64 x_7,
 Value.int IntKind.i64 x_8,
 Value.slice p n c_7,
 Value.int IntKind.i64 x_9,
 Value.int IntKind.i64 x_10,
 Value.slice p_5 n_7 c_8,
 Value.bool x_11])
 2]
 w1_1 W →
 ∃ (base : Nat),
 ∃ (xs : List Value),
 W.ownsRow base 42 39
 (Value.slice p_1 n_2 c) n_2 xs ∧
 n_2 + 1 ≤ 9223372036854775807 ∧
 (n_2 + 1) * 120 ≤ 140737488355328 ∧
 base ≤ W.heap.size ∧
 ∀ (p' : Option Addr) (c' : Nat)
 (w'_3 : World),
 w'_3.ownsRow base 42 39
 (Value.slice p' (n_2 + 1) c')
 (n_2 + 1)
 (xs ++
 (arrI IntKind.u8 f 32 0 ++ [Value.int IntKind.i64 x_7,
 Value.int IntKind.i64 x_8,
 Value.slice p n c_7,
 Value.int IntKind.i64 x_9,
 Value.int IntKind.i64 x_10,
 Value.slice p_5 n_7 c_8,
 Value.bool x_11])) →
 W.grownBy w'_3
 (Value.slice p_1 n_2
 c).ownBlock →
 (n_2 + 1 ≤ c →
 p' = p_1 ∧ c' = c) →
 KeptL [] W w'_3 ∧
 I
 [Value.int IntKind.i64
 (IntKind.i64.wrap
 (x + 1)),
 Value.slice p' (n_2 + 1)
 c']
 w'_3 ∧
 m
 [Value.int IntKind.i64
 (IntKind.i64.wrap
 (x + 1)),
 Value.slice p' (n_2 + 1)
 c']
 w'_3 <
 m
 [Value.int IntKind.i64 x,
 Value.slice p_1 n_2 c]
 w')
 (∀ (W : World),
 Loc w.heap.size
 [Blk.mk n_4 42
 (arrI IntKind.u8 f 32 0 ++ [Value.int IntKind.i64 x_1, Value.int IntKind.i64 x_2, Value.slice p n c_1,
 Value.int IntKind.i64 x_3, Value.int IntKind.i64 x_4, Value.slice p_2 n_3 c_2,
 Value.bool x_5])
 (wrM 2)]
 w' W →
 I [Value.int IntKind.i64 (IntKind.i64.wrap (x + 1)), Value.slice p_1 n_2 c] W ∧
 m [Value.int IntKind.i64 (IntKind.i64.wrap (x + 1)), Value.slice p_1 n_2 c] W <
 m [Value.int IntKind.i64 x, Value.slice p_1 n_2 c] w'))
 (R (Ending.returned (Value.slice p_1 n_2 c)) w'))
theorem vc_eafter (p : Option Addr) (n : Nat) (c : Nat) (q : Option Addr) (k : Nat) (d : Nat) (w : World) (R : Ending → World → Prop) (h : VC_eafter p n c q k d w R) : Calls Try.prog 25 ([Value.slice
    p n c,
  Value.slice q k d] : List Value).toArray w R := by
  have e : execR2 { P := Try.prog, loops := [(3, [(14, Ck.int IntKind.i64)]), (9, [(24, Ck.int IntKind.i64), (8, Ck.slice)])], pur := pur2, tails := [(12, 2)], joins := [], boxes := [] } Try.f25.results.toList R (Try.f25.body.getD .skip) (initF [Value.slice
    p n c,
  Value.slice q k
    d] (Try.f25.ntmps - ([Value.slice p n c,
  Value.slice q k d] : List Value).length)) w = VC_eafter p n c q k d w R := by kernel_rfl
  have hb : Try.f25.body = some (Try.f25.body.getD .skip) := by kernel_rfl
  exact calls_of_exec2' (P := Try.prog) (fn := Try.f25) (c := Try.f25.body.getD .skip) (args := [Value.slice p n c,
  Value.slice q k d]) (w := w) (R := R) pur2_ok Try.func25 hb e h

end Go.Proofs.Ytmjanmffnblcoaa
