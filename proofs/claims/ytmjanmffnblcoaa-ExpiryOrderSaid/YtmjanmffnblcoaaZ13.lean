/- The formulas of functions by the symbolic evaluator, and that each gives the call's contract. Written by a program (gen.py). No condition. -/
import Derived.Test.YtmjanmffnblcoaaProg
import Derived.Test.YtmjanmffnblcoaaZ02
import Derived.Test.YtmjanmffnblcoaaZ08
import Derived.Test.YtmjanmffnblcoaaZ04
import Derived.KernelRfl
import Derived.Test.YtmjanmffnblcoaaZ12
namespace Go.Proofs.Ytmjanmffnblcoaa
set_option maxRecDepth 100000
set_option linter.unusedVariables false

def VC_lknown (w : World) (R : Ending → World → Prop) : Prop :=
 ∀ (n n_1 : Nat) (W : World),
 Loc w.heap.size
 [Blk.mk n_1 9
 [Value.string (ByteArray.mk #[97, 108, 116, 46, 116, 101, 115, 116]),
 Value.string (ByteArray.mk #[114, 101, 99, 46, 98, 111, 97, 116, 115])]
 2,
 Blk.mk n 68
 [Value.string (ByteArray.mk #[42]), Value.int IntKind.i64 0, Value.int IntKind.i64 10,
 Value.string (ByteArray.mk #[114, 101, 99, 46, 42]), Value.int IntKind.i64 5, Value.int IntKind.i64 30]
 2]
 w W →
 ∀ (n_2 n_3 : Nat) (W_1 : World),
 Loc w.heap.size
 [Blk.mk n_3 42
 [Value.int IntKind.u8 1, Value.int IntKind.u8 0, Value.int IntKind.u8 0, Value.int IntKind.u8 0,
 Value.int IntKind.u8 0, Value.int IntKind.u8 0, Value.int IntKind.u8 0, Value.int IntKind.u8 0,
 Value.int IntKind.u8 0, Value.int IntKind.u8 0, Value.int IntKind.u8 0, Value.int IntKind.u8 0,
 Value.int IntKind.u8 0, Value.int IntKind.u8 0, Value.int IntKind.u8 0, Value.int IntKind.u8 0,
 Value.int IntKind.u8 0, Value.int IntKind.u8 0, Value.int IntKind.u8 0, Value.int IntKind.u8 0,
 Value.int IntKind.u8 0, Value.int IntKind.u8 0, Value.int IntKind.u8 0, Value.int IntKind.u8 0,
 Value.int IntKind.u8 0, Value.int IntKind.u8 0, Value.int IntKind.u8 0, Value.int IntKind.u8 0,
 Value.int IntKind.u8 0, Value.int IntKind.u8 0, Value.int IntKind.u8 0, Value.int IntKind.u8 0,
 Value.int IntKind.i64 0, Value.int IntKind.i64 0, Value.slice (some (Addr.mk n_1 0 none)) 2 2,
 Value.int IntKind.i64 7, Value.int IntKind.i64 0, Value.slice none 0 0, Value.bool false]
 2,
 Blk.mk n_2 42
 [Value.int IntKind.u8 1, Value.int IntKind.u8 0, Value.int IntKind.u8 0, Value.int IntKind.u8 0,
 Value.int IntKind.u8 0, Value.int IntKind.u8 0, Value.int IntKind.u8 0, Value.int IntKind.u8 0,
 Value.int IntKind.u8 0, Value.int IntKind.u8 0, Value.int IntKind.u8 0, Value.int IntKind.u8 0,
 Value.int IntKind.u8 0, Value.int IntKind.u8 0, Value.int IntKind.u8 0, Value.int IntKind.u8 0,
 Value.int IntKind.u8 0, Value.int IntKind.u8 0, Value.int IntKind.u8 0, Value.int IntKind.u8 0,
 Value.int IntKind.u8 0, Value.int IntKind.u8 0, Value.int IntKind.u8 0, Value.int IntKind.u8 0,
 Value.int IntKind.u8 0, Value.int IntKind.u8 0, Value.int IntKind.u8 0, Value.int IntKind.u8 0,
 Value.int IntKind.u8 0, Value.int IntKind.u8 0, Value.int IntKind.u8 0, Value.int IntKind.u8 0,
 Value.int IntKind.i64 0, Value.int IntKind.i64 0, Value.slice (some (Addr.mk n_1 0 none)) 2 2,
 Value.int IntKind.i64 7, Value.int IntKind.i64 0, Value.slice none 0 0, Value.bool false]
 (wrM 2),
 Blk.mk n 68
 [Value.string (ByteArray.mk #[42]), Value.int IntKind.i64 0, Value.int IntKind.i64 10,
 Value.string (ByteArray.mk #[114, 101, 99, 46, 42]), Value.int IntKind.i64 5, Value.int IntKind.i64 30]
 0]
 W W_1 →
 CallsS Try.prog 14
 #[Value.slice (some (Addr.mk n 0 none)) 2 2, Value.slice (some (Addr.mk n_3 0 none)) 1 1,
 Value.int IntKind.i64 43200, Value.int IntKind.i64 100]
 W_1 fun (e : Ending) (w' : World) =>
 ∃ (p : Option Addr),
 ∃ (n_4 : Nat),
 ∃ (c : Nat),
 ∃ (x : Int),
 e = Ending.returned (Value.tuple #[Value.slice p n_4 c, Value.int IntKind.i64 x]) ∧
 KeptL [n_2, n] W_1 w' ∧
 CallsS Try.prog 21
 #[Value.slice (some (Addr.mk n 0 none)) 2 2,
 Value.agg
 #[Value.int IntKind.u8 1, Value.int IntKind.u8 0, Value.int IntKind.u8 0, Value.int IntKind.u8 0,
 Value.int IntKind.u8 0, Value.int IntKind.u8 0, Value.int IntKind.u8 0, Value.int IntKind.u8 0,
 Value.int IntKind.u8 0, Value.int IntKind.u8 0, Value.int IntKind.u8 0, Value.int IntKind.u8 0,
 Value.int IntKind.u8 0, Value.int IntKind.u8 0, Value.int IntKind.u8 0, Value.int IntKind.u8 0,
 Value.int IntKind.u8 0, Value.int IntKind.u8 0, Value.int IntKind.u8 0, Value.int IntKind.u8 0,
 Value.int IntKind.u8 0, Value.int IntKind.u8 0, Value.int IntKind.u8 0, Value.int IntKind.u8 0,
 Value.int IntKind.u8 0, Value.int IntKind.u8 0, Value.int IntKind.u8 0, Value.int IntKind.u8 0,
 Value.int IntKind.u8 0, Value.int IntKind.u8 0, Value.int IntKind.u8 0, Value.int IntKind.u8 0,
 Value.int IntKind.i64 0, Value.int IntKind.i64 0, Value.slice (some (Addr.mk n_1 0 none)) 2 2,
 Value.int IntKind.i64 7, Value.int IntKind.i64 0, Value.slice none 0 0, Value.bool false]]
 w' fun (e : Ending) (w'_1 : World) =>
 ∃ (x_1 : Int),
 e = Ending.returned (Value.int IntKind.i64 x_1) ∧
 KeptL [n_2, n] w' w'_1 ∧
 bsp (x_1 == 5)
 (CallsS Try.prog 22
 #[Value.slice (some (Addr.mk n 0 none)) 2 2,
 Value.agg
 #[Value.int IntKind.u8 1, Value.int IntKind.u8 0, Value.int IntKind.u8 0, Value.int IntKind.u8 0,
 Value.int IntKind.u8 0, Value.int IntKind.u8 0, Value.int IntKind.u8 0, Value.int IntKind.u8 0,
 Value.int IntKind.u8 0, Value.int IntKind.u8 0, Value.int IntKind.u8 0, Value.int IntKind.u8 0,
 Value.int IntKind.u8 0, Value.int IntKind.u8 0, Value.int IntKind.u8 0, Value.int IntKind.u8 0,
 Value.int IntKind.u8 0, Value.int IntKind.u8 0, Value.int IntKind.u8 0, Value.int IntKind.u8 0,
 Value.int IntKind.u8 0, Value.int IntKind.u8 0, Value.int IntKind.u8 0, Value.int IntKind.u8 0,
 Value.int IntKind.u8 0, Value.int IntKind.u8 0, Value.int IntKind.u8 0, Value.int IntKind.u8 0,
 Value.int IntKind.u8 0, Value.int IntKind.u8 0, Value.int IntKind.u8 0, Value.int IntKind.u8 0,
 Value.int IntKind.i64 0, Value.int IntKind.i64 0, Value.slice (some (Addr.mk n_1 0 none)) 2 2,
 Value.int IntKind.i64 7, Value.int IntKind.i64 0, Value.slice none 0 0, Value.bool false]]
 w'_1 fun (e : Ending) (w' : World) =>
 ∃ (x_2 : Int),
 e = Ending.returned (Value.int IntKind.i64 x_2) ∧
 KeptL [n_2, n] w'_1 w' ∧
 nn (true && x_2 == 30 && x == 0 && (↑n_4 : Int) == 1) p fun (b o : Nat) =>
 gimp (true && x_2 == 30 && x == 0 && (↑n_4 : Int) == 1) ((0 : Int) ≤ 0 ∧ 0 < (↑n_4 : Int)) ∧
 ∃ (f : Nat → Int),
 ∃ (x_3 : Int),
 gimp (true && x_2 == 30 && x == 0 && (↑n_4 : Int) == 1)
 (AtL w' b o
 (arrI IntKind.u8 f 32 0 ++ [Value.int IntKind.i64 x_3])) ∧
 ∃ (r : Bool),
 gimp (true && x_2 == 30 && x == 0 && (↑n_4 : Int) == 1)
 (EqP Try.prog 44
 (Value.agg
 (arrI IntKind.u8 f 32 0 ++ [Value.int IntKind.i64 x_3]).toArray)
 (Value.agg
 #[Value.int IntKind.u8 1, Value.int IntKind.u8 0, Value.int IntKind.u8 0,
 Value.int IntKind.u8 0, Value.int IntKind.u8 0, Value.int IntKind.u8 0,
 Value.int IntKind.u8 0, Value.int IntKind.u8 0, Value.int IntKind.u8 0,
 Value.int IntKind.u8 0, Value.int IntKind.u8 0, Value.int IntKind.u8 0,
 Value.int IntKind.u8 0, Value.int IntKind.u8 0, Value.int IntKind.u8 0,
 Value.int IntKind.u8 0, Value.int IntKind.u8 0, Value.int IntKind.u8 0,
 Value.int IntKind.u8 0, Value.int IntKind.u8 0, Value.int IntKind.u8 0,
 Value.int IntKind.u8 0, Value.int IntKind.u8 0, Value.int IntKind.u8 0,
 Value.int IntKind.u8 0, Value.int IntKind.u8 0, Value.int IntKind.u8 0,
 Value.int IntKind.u8 0, Value.int IntKind.u8 0, Value.int IntKind.u8 0,
 Value.int IntKind.u8 0, Value.int IntKind.u8 0, Value.int IntKind.i64 2])
 r) ∧
 R (Ending.returned (Value.bool (true && x_2 == 30 && x == 0 && (↑n_4 : Int) == 1 && r))) w')
 (KeptL [n_2, n] w'_1 w'_1 ∧
 nn (false && x == 0 && (↑n_4 : Int) == 1) p fun (b o : Nat) =>
 True ∧
 ∃ (f : Nat → Int),
 ∃ (x_2 : Int),
 True ∧
 ∃ (r : Bool),
 True ∧ R (Ending.returned (Value.bool (false && x == 0 && (↑n_4 : Int) == 1 && r))) w'_1)
theorem vc_lknown (w : World) (R : Ending → World → Prop) (h : VC_lknown w R) : Calls Try.prog 10 ([] : List Value).toArray w R := by
  have e : execR2 { P := Try.prog, loops := [], pur := pur2, tails := [], joins := [], boxes := [] } Try.f10.results.toList R (Try.f10.body.getD .skip) (initF [] (Try.f10.ntmps - ([] : List Value).length)) w = VC_lknown w R := by kernel_rfl
  have hb : Try.f10.body = some (Try.f10.body.getD .skip) := by kernel_rfl
  exact calls_of_exec2' (P := Try.prog) (fn := Try.f10) (c := Try.f10.body.getD .skip) (args := []) (w := w) (R := R) pur2_ok Try.func10 hb e h

def VC_lheld (id : Nat → Int) (dt : Int) (ar : Int) (gp : Option Addr) (gn : Nat) (gc : Nat) (by_ : Int) (ct : Int) (hp : Option Addr) (hn : Nat) (hc : Nat) (wd : Bool) (w : World) (R : Ending → World → Prop) : Prop :=
 ∀ (n : Nat) (W : World),
 Loc w.heap.size
 [Blk.mk n 48
 (arrI IntKind.u8 id 32 0 ++ [Value.int IntKind.i64 dt, Value.int IntKind.i64 ar,
 Value.slice gp gn gc, Value.int IntKind.i64 by_, Value.int IntKind.i64 ct, Value.slice hp hn hc, Value.bool wd])
 2]
 w W →
 CallsS Try.prog 10 #[] W fun (e : Ending) (w' : World) =>
 ∃ (x : Bool),
 e = Ending.returned (Value.bool x) ∧
 KeptL [n] W w' ∧
 bsp (!!x)
 (∀ (n_1 : Nat) (W : World),
 Loc w.heap.size
 [Blk.mk n_1 48
 (arrI IntKind.u8 id 32 0 ++ [Value.int IntKind.i64 dt,
 Value.int IntKind.i64 ar, Value.slice gp gn gc, Value.int IntKind.i64 by_, Value.int IntKind.i64 ct,
 Value.slice hp hn hc, Value.bool wd])
 2,
 Blk.mk n 48
 (arrI IntKind.u8 id 32 0 ++ [Value.int IntKind.i64 dt,
 Value.int IntKind.i64 ar, Value.slice gp gn gc, Value.int IntKind.i64 by_, Value.int IntKind.i64 ct,
 Value.slice hp hn hc, Value.bool wd])
 0]
 w' W →
 CallsS Try.prog 11 #[Value.slice none 0 0, Value.slice (some (Addr.mk n_1 0 none)) 1 1] W
 fun (e : Ending) (w' : World) =>
 ∃ (x : Bool),
 e = Ending.returned (Value.bool x) ∧
 KeptL [n] W w' ∧
 bsp (false || !x)
 (CallsS Try.prog 10 #[] w' fun (e : Ending) (w'_1 : World) =>
 ∃ (x : Bool),
 e = Ending.returned (Value.bool x) ∧ KeptL [n] w' w'_1 ∧ R (Ending.returned (Value.bool x)) w'_1)
 (∃ (I : List Value → World → Prop),
 ∃ (m : List Value → World → Nat),
 I [Value.int IntKind.i64 0, Value.bool false] w' ∧
 ∀ (x : Int) (x_1 : Bool) (w' : World),
 I [Value.int IntKind.i64 x, Value.bool x_1] w' →
 Loc w.heap.size
 [Blk.mk n 48
 (arrI IntKind.u8 id 32 0 ++ [Value.int IntKind.i64 dt,
 Value.int IntKind.i64 ar, Value.slice gp gn gc, Value.int IntKind.i64 by_,
 Value.int IntKind.i64 ct, Value.slice hp hn hc, Value.bool wd])
 0]
 w' w' →
 bsp (decide (x < (↑hn : Int)))
 (∃ (p : Option Addr),
 ∃ (n_2 : Nat),
 ∃ (c : Nat),
 gimp (!x_1) (w'.cell? (Addr.mk n (0 + 37) none) = some (Value.slice p n_2 c)) ∧
 nn (!x_1) p fun (b o : Nat) =>
 gimp (!x_1) (0 ≤ x ∧ x < (↑n_2 : Int)) ∧
 gimp (!x_1) ((0 : Int) ≤ 0 ∧ 0 < (↑32 : Int)) ∧
 ∃ (x_2 : Int),
 gimp (!x_1)
 (w'.cell? (Addr.mk b (o + x.toNat * 32) none) = some (Value.int IntKind.u8 x_2)) ∧
 I [Value.int IntKind.i64 (IntKind.i64.wrap (x + 1)), Value.bool (x_1 || x_2.tmod 2 == 1)]
 w' ∧
 m [Value.int IntKind.i64 (IntKind.i64.wrap (x + 1)), Value.bool (x_1 || x_2.tmod 2 == 1)]
 w' <
 m [Value.int IntKind.i64 x, Value.bool x_1] w')
 (CallsS Try.prog 16
 #[Value.agg
 (arrI IntKind.u8 id 32 0 ++ [Value.int IntKind.i64 dt,
 Value.int IntKind.i64 ar, Value.slice gp gn gc, Value.int IntKind.i64 by_,
 Value.int IntKind.i64 ct, Value.slice hp hn hc, Value.bool wd]).toArray]
 w' fun (e : Ending) (w'_1 : World) =>
 ∃ (f : Nat → Int),
 ∃ (x : Int),
 ∃ (x_2 : Int),
 ∃ (p : Option Addr),
 ∃ (n_2 : Nat),
 ∃ (c : Nat),
 ∃ (x_3 : Int),
 ∃ (x_4 : Int),
 ∃ (p_1 : Option Addr),
 ∃ (n_3 : Nat),
 ∃ (c_1 : Nat),
 ∃ (x_5 : Bool),
 e =
 Ending.returned
 (Value.agg
 (arrI IntKind.u8 f 32 0 ++ [Value.int IntKind.i64 x, Value.int IntKind.i64 x_2, Value.slice p n_2 c,
 Value.int IntKind.i64 x_3, Value.int IntKind.i64 x_4, Value.slice p_1 n_3 c_1,
 Value.bool x_5]).toArray) ∧
 KeptL [n] w' w'_1 ∧
 CallsS Try.prog 15
 #[Value.agg
 (arrI IntKind.u8 f 32 0 ++ [Value.int IntKind.i64 x, Value.int IntKind.i64 x_2, Value.slice p n_2 c,
 Value.int IntKind.i64 x_3, Value.int IntKind.i64 x_4, Value.slice p_1 n_3 c_1,
 Value.bool x_5]).toArray,
 Value.func (Fn.func 17) #[] #[]]
 w'_1 fun (e : Ending) (w' : World) =>
 ∃ (x : Bool),
 e = Ending.returned (Value.bool x) ∧
 KeptL [n] w'_1 w' ∧
 bsp (x == x_1)
 (CallsS Try.prog 16
 #[Value.agg
 (arrI IntKind.u8 id 32 0 ++ [Value.int IntKind.i64 dt, Value.int IntKind.i64 ar, Value.slice gp gn gc,
 Value.int IntKind.i64 by_, Value.int IntKind.i64 ct, Value.slice hp hn hc,
 Value.bool wd]).toArray]
 w' fun (e : Ending) (w'_2 : World) =>
 ∃ (f : Nat → Int),
 ∃ (x : Int),
 ∃ (x_6 : Int),
 ∃ (p : Option Addr),
 ∃ (n_4 : Nat),
 ∃ (c : Nat),
 ∃ (x_7 : Int),
 ∃ (x_8 : Int),
 ∃ (p_2 : Option Addr),
 ∃ (n_5 : Nat),
 ∃ (c_2 : Nat),
 ∃ (x_9 : Bool),
 e =
 Ending.returned
 (Value.agg
 (arrI IntKind.u8 f 32 0 ++ [Value.int IntKind.i64 x, Value.int IntKind.i64 x_6,
 Value.slice p n_4 c, Value.int IntKind.i64 x_7,
 Value.int IntKind.i64 x_8, Value.slice p_2 n_5 c_2,
 Value.bool x_9]).toArray) ∧
 KeptL [n] w' w'_2 ∧
 CallsS Try.prog 15
 #[Value.agg
 (arrI IntKind.u8 f 32 0 ++ [Value.int IntKind.i64 x, Value.int IntKind.i64 x_6,
 Value.slice p n_4 c, Value.int IntKind.i64 x_7,
 Value.int IntKind.i64 x_8, Value.slice p_2 n_5 c_2,
 Value.bool x_9]).toArray,
 Value.nilFunc]
 w'_2 fun (e : Ending) (w' : World) =>
 ∃ (x : Bool),
 e = Ending.returned (Value.bool x) ∧
 KeptL [n] w'_2 w' ∧
 R (Ending.returned (Value.bool (true && !x))) w')
 (KeptL [n] w' w' ∧
 KeptL [n] w' w' ∧ R (Ending.returned (Value.bool false)) w'))))
 (KeptL [n] w' w' ∧
 CallsS Try.prog 10 #[] w' fun (e : Ending) (w'_1 : World) =>
 ∃ (x : Bool), e = Ending.returned (Value.bool x) ∧ KeptL [n] w' w'_1 ∧ R (Ending.returned (Value.bool x)) w'_1)
theorem vc_lheld (id : Nat → Int) (dt : Int) (ar : Int) (gp : Option Addr) (gn : Nat) (gc : Nat) (by_ : Int) (ct : Int) (hp : Option Addr) (hn : Nat) (hc : Nat) (wd : Bool) (w : World) (R : Ending → World → Prop) (h : VC_lheld id dt ar gp gn gc by_ ct hp hn hc wd w R) : Calls Try.prog 4 ([Value.agg
    (arrI IntKind.u8 id 32 0 ++
        [Value.int IntKind.i64 dt, Value.int IntKind.i64 ar, Value.slice gp gn gc, Value.int IntKind.i64 by_,
          Value.int IntKind.i64 ct, Value.slice hp hn hc, Value.bool wd]).toArray] : List Value).toArray w R := by
  have e : execR2 { P := Try.prog, loops := [(5, [(4, Ck.int IntKind.i64), (3, Ck.bool)])], pur := pur2, tails := [], joins := [], boxes := [] } Try.f4.results.toList R (Try.f4.body.getD .skip) (initF [Value.agg
    (arrI IntKind.u8 id 32 0 ++
        [Value.int IntKind.i64 dt, Value.int IntKind.i64 ar, Value.slice gp gn gc, Value.int IntKind.i64 by_,
          Value.int IntKind.i64 ct, Value.slice hp hn hc,
          Value.bool
            wd]).toArray] (Try.f4.ntmps - ([Value.agg
    (arrI IntKind.u8 id 32 0 ++
        [Value.int IntKind.i64 dt, Value.int IntKind.i64 ar, Value.slice gp gn gc, Value.int IntKind.i64 by_,
          Value.int IntKind.i64 ct, Value.slice hp hn hc,
          Value.bool
            wd]).toArray] : List Value).length)) w = VC_lheld id dt ar gp gn gc by_ ct hp hn hc wd w R := by kernel_rfl
  have hb : Try.f4.body = some (Try.f4.body.getD .skip) := by kernel_rfl
  exact calls_of_exec2' (P := Try.prog) (fn := Try.f4) (c := Try.f4.body.getD .skip) (args := [Value.agg
    (arrI IntKind.u8 id 32 0 ++
        [Value.int IntKind.i64 dt, Value.int IntKind.i64 ar, Value.slice gp gn gc, Value.int IntKind.i64 by_,
          Value.int IntKind.i64 ct, Value.slice hp hn hc,
          Value.bool wd]).toArray]) (w := w) (R := R) pur2_ok Try.func4 hb e h

def VC_lexrules (p : Option Addr) (n : Nat) (c : Nat) (id : Nat → Int) (dt : Int) (ar : Int) (gp : Option Addr) (gn : Nat) (gc : Nat) (by_ : Int) (ct : Int) (hp : Option Addr) (hn : Nat) (hc : Nat) (wd : Bool) (w : World) (R : Ending → World → Prop) : Prop :=
 ∀ (n_1 : Nat) (W : World),
 Loc w.heap.size
 [Blk.mk n_1 48
 (arrI IntKind.u8 id 32 0 ++ [Value.int IntKind.i64 dt, Value.int IntKind.i64 ar,
 Value.slice gp gn gc, Value.int IntKind.i64 by_, Value.int IntKind.i64 ct, Value.slice hp hn hc, Value.bool wd])
 2]
 w W →
 CallsS Try.prog 10 #[] W fun (e : Ending) (w' : World) =>
 ∃ (x : Bool),
 e = Ending.returned (Value.bool x) ∧
 KeptL [n_1] W w' ∧
 bsp (!!x)
 (∀ (n_2 : Nat) (W : World),
 Loc w.heap.size
 [Blk.mk n_2 48
 (arrI IntKind.u8 id 32 0 ++ [Value.int IntKind.i64 dt,
 Value.int IntKind.i64 ar, Value.slice gp gn gc, Value.int IntKind.i64 by_, Value.int IntKind.i64 ct,
 Value.slice hp hn hc, Value.bool wd])
 2,
 Blk.mk n_1 48
 (arrI IntKind.u8 id 32 0 ++ [Value.int IntKind.i64 dt,
 Value.int IntKind.i64 ar, Value.slice gp gn gc, Value.int IntKind.i64 by_, Value.int IntKind.i64 ct,
 Value.slice hp hn hc, Value.bool wd])
 0]
 w' W →
 CallsS Try.prog 11 #[Value.slice p n c, Value.slice (some (Addr.mk n_2 0 none)) 1 1] W
 fun (e : Ending) (w' : World) =>
 ∃ (x : Bool),
 e = Ending.returned (Value.bool x) ∧
 KeptL [n_1] W w' ∧
 bsp (false || !x)
 (CallsS Try.prog 10 #[] w' fun (e : Ending) (w'_1 : World) =>
 ∃ (x : Bool),
 e = Ending.returned (Value.bool x) ∧ KeptL [n_1] w' w'_1 ∧ R (Ending.returned (Value.bool x)) w'_1)
 (CallsS Try.prog 12 #[Value.slice p n c] w' fun (e : Ending) (w'_1 : World) =>
 ∃ (p_1 : Option Addr),
 ∃ (n_3 : Nat),
 ∃ (c_1 : Nat),
 e = Ending.returned (Value.slice p_1 n_3 c_1) ∧
 KeptL [n_1] w' w'_1 ∧
 CallsS Try.prog 18 #[Value.slice p_1 n_3 c_1] w'_1 fun (e : Ending) (w' : World) =>
 ∃ (x : Int),
 e = Ending.returned (Value.int IntKind.i64 x) ∧
 KeptL [n_1] w'_1 w' ∧
 CallsS Try.prog 19 #[Value.slice p n c] w' fun (e : Ending) (w'_2 : World) =>
 ∃ (x_1 : Int),
 e = Ending.returned (Value.int IntKind.i64 x_1) ∧
 KeptL [n_1] w' w'_2 ∧
 bsp (x != x_1) (R (Ending.returned (Value.bool false)) w'_2)
 (CallsS Try.prog 19 #[Value.slice p n c] w'_2 fun (e : Ending) (w' : World) =>
 ∃ (x : Int),
 e = Ending.returned (Value.int IntKind.i64 x) ∧
 KeptL [n_1] w'_2 w' ∧
 bsp (x == 0)
 (CallsS Try.prog 20 #[Value.slice p n c, Value.slice gp gn gc] w'
 fun (e : Ending) (w'_3 : World) =>
 ∃ (x : Int),
 ∃ (x_2 : Int),
 e =
 Ending.returned
 (Value.tuple #[Value.int IntKind.i64 x, Value.int IntKind.i64 x_2]) ∧
 KeptL [n_1] w' w'_3 ∧
 CallsS Try.prog 16
 #[Value.agg
 (arrI IntKind.u8 id 32 0 ++ [Value.int IntKind.i64 dt, Value.int IntKind.i64 ar, Value.slice gp gn gc,
 Value.int IntKind.i64 by_, Value.int IntKind.i64 ct, Value.slice hp hn hc,
 Value.bool wd]).toArray]
 w'_3 fun (e : Ending) (w' : World) =>
 ∃ (f : Nat → Int),
 ∃ (x_3 : Int),
 ∃ (x_4 : Int),
 ∃ (p : Option Addr),
 ∃ (n : Nat),
 ∃ (c : Nat),
 ∃ (x_5 : Int),
 ∃ (x_6 : Int),
 ∃ (p_2 : Option Addr),
 ∃ (n_4 : Nat),
 ∃ (c_2 : Nat),
 ∃ (x_7 : Bool),
 e =
 Ending.returned
 (Value.agg
 (arrI IntKind.u8 f 32 0 ++ [Value.int IntKind.i64 x_3, Value.int IntKind.i64 x_4,
 Value.slice p n c, Value.int IntKind.i64 x_5,
 Value.int IntKind.i64 x_6, Value.slice p_2 n_4 c_2,
 Value.bool x_7]).toArray) ∧
 KeptL [n_1] w'_3 w' ∧
 CallsS Try.prog 21
 #[Value.slice p_1 n_3 c_1,
 Value.agg
 (arrI IntKind.u8 f 32 0 ++ [Value.int IntKind.i64 x_3, Value.int IntKind.i64 x_4,
 Value.slice p n c, Value.int IntKind.i64 x_5,
 Value.int IntKind.i64 x_6, Value.slice p_2 n_4 c_2,
 Value.bool x_7]).toArray]
 w' fun (e : Ending) (w'_4 : World) =>
 ∃ (x_8 : Int),
 e = Ending.returned (Value.int IntKind.i64 x_8) ∧
 KeptL [n_1] w' w'_4 ∧
 bsp (x_8 == x)
 (CallsS Try.prog 16
 #[Value.agg
 (arrI IntKind.u8 id 32 0 ++ [Value.int IntKind.i64 dt,
 Value.int IntKind.i64 ar, Value.slice gp gn gc,
 Value.int IntKind.i64 by_, Value.int IntKind.i64 ct,
 Value.slice hp hn hc, Value.bool wd]).toArray]
 w'_4 fun (e : Ending) (w' : World) =>
 ∃ (f : Nat → Int),
 ∃ (x : Int),
 ∃ (x_9 : Int),
 ∃ (p : Option Addr),
 ∃ (n : Nat),
 ∃ (c : Nat),
 ∃ (x_10 : Int),
 ∃ (x_11 : Int),
 ∃ (p_3 : Option Addr),
 ∃ (n_5 : Nat),
 ∃ (c_3 : Nat),
 ∃ (x_12 : Bool),
 e =
 Ending.returned
 (Value.agg
 (arrI IntKind.u8 f 32 0 ++ [Value.int IntKind.i64 x,
 Value.int IntKind.i64 x_9,
 Value.slice p n c,
 Value.int IntKind.i64 x_10,
 Value.int IntKind.i64 x_11,
 Value.slice p_3 n_5 c_3,
 Value.bool x_12]).toArray) ∧
 KeptL [n_1] w'_4 w' ∧
 CallsS Try.prog 22
 #[Value.slice p_1 n_3 c_1,
 Value.agg
 (arrI IntKind.u8 f 32 0 ++ [Value.int IntKind.i64 x,
 Value.int IntKind.i64 x_9,
 Value.slice p n c,
 Value.int IntKind.i64 x_10,
 Value.int IntKind.i64 x_11,
 Value.slice p_3 n_5 c_3, Value.bool x_12]).toArray]
 w' fun (e : Ending) (w'_5 : World) =>
 ∃ (x : Int),
 e =
 Ending.returned
 (Value.int IntKind.i64 x) ∧
 KeptL [n_1] w' w'_5 ∧
 R
 (Ending.returned
 (Value.bool (true && x == x_2)))
 w'_5)
 (KeptL [n_1] w'_4 w'_4 ∧
 KeptL [n_1] w'_4 w'_4 ∧
 R (Ending.returned (Value.bool false)) w'_4))
 (CallsS Try.prog 16
 #[Value.agg
 (arrI IntKind.u8 id 32 0 ++ [Value.int IntKind.i64 dt, Value.int IntKind.i64 ar, Value.slice gp gn gc,
 Value.int IntKind.i64 by_, Value.int IntKind.i64 ct, Value.slice hp hn hc,
 Value.bool wd]).toArray]
 w' fun (e : Ending) (w'_3 : World) =>
 ∃ (f : Nat → Int),
 ∃ (x : Int),
 ∃ (x_2 : Int),
 ∃ (p : Option Addr),
 ∃ (n : Nat),
 ∃ (c : Nat),
 ∃ (x_3 : Int),
 ∃ (x_4 : Int),
 ∃ (p_2 : Option Addr),
 ∃ (n_4 : Nat),
 ∃ (c_2 : Nat),
 ∃ (x_5 : Bool),
 e =
 Ending.returned
 (Value.agg
 (arrI IntKind.u8 f 32 0 ++ [Value.int IntKind.i64 x, Value.int IntKind.i64 x_2,
 Value.slice p n c, Value.int IntKind.i64 x_3,
 Value.int IntKind.i64 x_4, Value.slice p_2 n_4 c_2,
 Value.bool x_5]).toArray) ∧
 KeptL [n_1] w' w'_3 ∧
 CallsS Try.prog 21
 #[Value.slice p_1 n_3 c_1,
 Value.agg
 (arrI IntKind.u8 f 32 0 ++ [Value.int IntKind.i64 x, Value.int IntKind.i64 x_2,
 Value.slice p n c, Value.int IntKind.i64 x_3,
 Value.int IntKind.i64 x_4, Value.slice p_2 n_4 c_2,
 Value.bool x_5]).toArray]
 w'_3 fun (e : Ending) (w' : World) =>
 ∃ (x : Int),
 e = Ending.returned (Value.int IntKind.i64 x) ∧
 KeptL [n_1] w'_3 w' ∧
 bsp (x == 0)
 (CallsS Try.prog 16
 #[Value.agg
 (arrI IntKind.u8 id 32 0 ++ [Value.int IntKind.i64 dt, Value.int IntKind.i64 ar,
 Value.slice gp gn gc, Value.int IntKind.i64 by_,
 Value.int IntKind.i64 ct, Value.slice hp hn hc,
 Value.bool wd]).toArray]
 w' fun (e : Ending) (w'_4 : World) =>
 ∃ (f : Nat → Int),
 ∃ (x : Int),
 ∃ (x_6 : Int),
 ∃ (p : Option Addr),
 ∃ (n : Nat),
 ∃ (c : Nat),
 ∃ (x_7 : Int),
 ∃ (x_8 : Int),
 ∃ (p_3 : Option Addr),
 ∃ (n_5 : Nat),
 ∃ (c_3 : Nat),
 ∃ (x_9 : Bool),
 e =
 Ending.returned
 (Value.agg
 (arrI IntKind.u8 f 32 0 ++ [Value.int IntKind.i64 x,
 Value.int IntKind.i64 x_6, Value.slice p n c,
 Value.int IntKind.i64 x_7,
 Value.int IntKind.i64 x_8,
 Value.slice p_3 n_5 c_3, Value.bool x_9]).toArray) ∧
 KeptL [n_1] w' w'_4 ∧
 CallsS Try.prog 22
 #[Value.slice p_1 n_3 c_1,
 Value.agg
 (arrI IntKind.u8 f 32 0 ++ [Value.int IntKind.i64 x,
 Value.int IntKind.i64 x_6, Value.slice p n c,
 Value.int IntKind.i64 x_7,
 Value.int IntKind.i64 x_8,
 Value.slice p_3 n_5 c_3, Value.bool x_9]).toArray]
 w'_4 fun (e : Ending) (w' : World) =>
 ∃ (x : Int),
 e = Ending.returned (Value.int IntKind.i64 x) ∧
 KeptL [n_1] w'_4 w' ∧
 R
 (Ending.returned
 (Value.bool (true && x == 0)))
 w')
 (KeptL [n_1] w' w' ∧
 KeptL [n_1] w' w' ∧
 R (Ending.returned (Value.bool false)) w')))))
 (KeptL [n_1] w' w' ∧
 CallsS Try.prog 10 #[] w' fun (e : Ending) (w'_1 : World) =>
 ∃ (x : Bool),
 e = Ending.returned (Value.bool x) ∧ KeptL [n_1] w' w'_1 ∧ R (Ending.returned (Value.bool x)) w'_1)
theorem vc_lexrules (p : Option Addr) (n : Nat) (c : Nat) (id : Nat → Int) (dt : Int) (ar : Int) (gp : Option Addr) (gn : Nat) (gc : Nat) (by_ : Int) (ct : Int) (hp : Option Addr) (hn : Nat) (hc : Nat) (wd : Bool) (w : World) (R : Ending → World → Prop) (h : VC_lexrules p n c id dt ar gp gn gc by_ ct hp hn hc wd w R) : Calls Try.prog 5 ([Value.slice
    p n c,
  Value.agg
    (arrI IntKind.u8 id 32 0 ++
        [Value.int IntKind.i64 dt, Value.int IntKind.i64 ar, Value.slice gp gn gc, Value.int IntKind.i64 by_,
          Value.int IntKind.i64 ct, Value.slice hp hn hc, Value.bool wd]).toArray] : List Value).toArray w R := by
  have e : execR2 { P := Try.prog, loops := [], pur := pur2, tails := [], joins := [], boxes := [] } Try.f5.results.toList R (Try.f5.body.getD .skip) (initF [Value.slice
    p n c,
  Value.agg
    (arrI IntKind.u8 id 32 0 ++
        [Value.int IntKind.i64 dt, Value.int IntKind.i64 ar, Value.slice gp gn gc, Value.int IntKind.i64 by_,
          Value.int IntKind.i64 ct, Value.slice hp hn hc,
          Value.bool
            wd]).toArray] (Try.f5.ntmps - ([Value.slice p n c,
  Value.agg
    (arrI IntKind.u8 id 32 0 ++
        [Value.int IntKind.i64 dt, Value.int IntKind.i64 ar, Value.slice gp gn gc, Value.int IntKind.i64 by_,
          Value.int IntKind.i64 ct, Value.slice hp hn hc,
          Value.bool
            wd]).toArray] : List Value).length)) w = VC_lexrules p n c id dt ar gp gn gc by_ ct hp hn hc wd w R := by kernel_rfl
  have hb : Try.f5.body = some (Try.f5.body.getD .skip) := by kernel_rfl
  exact calls_of_exec2' (P := Try.prog) (fn := Try.f5) (c := Try.f5.body.getD .skip) (args := [Value.slice p n c,
  Value.agg
    (arrI IntKind.u8 id 32 0 ++
        [Value.int IntKind.i64 dt, Value.int IntKind.i64 ar, Value.slice gp gn gc, Value.int IntKind.i64 by_,
          Value.int IntKind.i64 ct, Value.slice hp hn hc,
          Value.bool wd]).toArray]) (w := w) (R := R) pur2_ok Try.func5 hb e h

end Go.Proofs.Ytmjanmffnblcoaa

/- Chapter 42: reasons compared; the examples hold (known). No condition. -/
namespace Go.Proofs.Ytmjanmffnblcoaa
open Go.RowKit Go.Sort Go.Maps

theorem whyKey {f : Nat → Int} (hf : ∀ j, 0 ≤ f j ∧ f j ≤ 255) {k : Int} (hk : 0 ≤ k ∧ k ≤ 5) (D : Nat) : Try.prog.keyLits (D + 3) 44 (whyL f k) = some ((idI f).map (Lit.int .u8) ++ [.int .i64 k]) := by
  unfold Program.keyLits
  rw [Try.underlying44]
  simp only
  have c0 : Try.prog.cellsOf 44 = 33 := by kernel_rfl
  rw [if_pos ⟨by rw [c0]; rfl, by decide +kernel⟩]
  have h1 := keyLits_bytes (P := Try.prog) (t := 38) (e := 5) (n := 32) Try.underlying38 Try.underlying5 (by kernel_rfl) (by kernel_rfl) (idI_len f) (idI_bd hf) D
  have h2 : Try.prog.keyLits (D + 2) 3 [.int .i64 k] = some [.int .i64 k] := by
    unfold Program.keyLits
    rw [Try.underlying3]
    simp only
    have hw : (Lit.int .i64 k).wf = true := by simp [Lit.wf, IntKind.min, IntKind.max, IntKind.bits, IntKind.signed]; omega
    simp [hw]
  have c1 : Try.prog.cellsOf 38 = 32 := by kernel_rfl
  have c2 : Try.prog.cellsOf 3 = 1 := by kernel_rfl
  simp only [List.mapM_cons, List.mapM_nil, c1, c2]
  have e1 : ((whyL f k).drop 0).take 32 = (idI f).map (Value.int .u8) := rfl
  have e2 : ((whyL f k).drop 32).take 1 = [.int .i64 k] := rfl
  rw [e1, e2, h1, h2]
  simp
theorem whyEq {f : Nat → Int} (hf : ∀ j, 0 ≤ f j ∧ f j ≤ 255) {k : Int} (hk : 0 ≤ k ∧ k ≤ 5) : EqP Try.prog 44 (.agg (whyL f k).toArray) (.agg (whyL f k).toArray) true := by
  have hkey : keyOf Try.prog 44 (.agg (whyL f k).toArray) = some (.string (keyBytes ((idI f).map (Lit.int .u8) ++ [.int .i64 k]))) := by
    unfold keyOf
    rw [Try.underlying44]
    simp only
    have h1 : Try.prog.keyType 44 = true := by kernel_rfl
    have hf' : (Value.agg (whyL f k).toArray).formed Try.prog 44 = true := by
      unfold Value.formed
      rw [Try.underlying44]
      have c0 : Try.prog.cellsOf 44 = 33 := by kernel_rfl
      simp only
      rw [c0]; rfl
    rw [h1, hf']
    have h2 := whyKey hf hk (Try.prog.types.size - 2)
    have hsz : 2 ≤ Try.prog.types.size := by decide +kernel
    have e2 : Try.prog.types.size - 2 + 3 = Try.prog.types.size + 1 := by omega
    rw [e2] at h2
    have : (Value.agg (whyL f k).toArray).cells.toList = whyL f k := by simp [Value.cells]
    rw [this, h2]
    rfl
  refine ⟨fun w => ?_, by kernel_rfl, _, _, rfl, rfl⟩
  obtain ⟨r, hr, hi⟩ := run_equal_deep w (m := 3) (by omega) (by kernel_rfl) (by rw [Try.underlying44]) hkey hkey
  rw [hr, hi.2 rfl]
/-- A block is a row of elements. -/
theorem rowA_block {α : Type} {f : α → List Value} {L : Nat} {w : World} {n : Nat} {T : TypeId} {fz : Nat × Nat} {l : List α} (h : w.heap[n]? = some (.cells (l.flatMap f).toArray T fz)) (hl : ∀ y, (f y).length = L) : RowA f L w (some ⟨n, 0, none⟩) l := fun k y hy => by
  refine ⟨n, 0, rfl, AtL_block h ?_⟩
  rw [hl y, Nat.zero_add]
  apply List.ext_getElem?
  intro j
  rw [List.getElem?_take]
  split
  · rename_i hj
    rw [List.getElem?_drop]
    exact flat_get f L l k y j (fun z _ => hl z) hy hj
  · rename_i hj
    rw [List.getElem?_eq_none (by rw [hl y]; omega)]
def b0 (s : String) : ByteArray := s.toUTF8
/-- The example's rules and article. -/
def exL : List Rl := [⟨⟨#[42]⟩, 0, 10⟩, ⟨⟨#[114, 101, 99, 46, 42]⟩, 5, 30⟩]
def exI (j : Nat) : Int := if j = 0 then 1 else 0
def exA (p : Option Addr) : AX := ⟨exI, 0, 0, p, 2, [⟨#[97, 108, 116, 46, 116, 101, 115, 116]⟩, ⟨#[114, 101, 99, 46, 98, 111, 97, 116, 115]⟩], 7, 0, none, 0, [], false⟩
theorem exA_pl (p : Option Addr) : (exA p).pl = (exA none).pl := rfl
theorem ex_err : planErr exL [(exA none).pl] 43200 100 = 0 := by decide +kernel
theorem ex_plan : (refP exL 43200 100 1 [(exA none).pl]).1 = [(idI exI, 2)] := by decide +kernel
theorem ex_chk : chkR exL = 0 := by decide +kernel
theorem ex_days : daysR exL (exA none).gs = (5, 30) := by decide +kernel
set_option maxRecDepth 100000 in
theorem known_any (w : World) : Calls Try.prog 10 #[] w fun e w' => e = .returned (.bool true) ∧ K0 w w' := by
  refine vc_lknown w _ ?_
  intro n n1 W hW n2 n3 W1 hW1
  have kW : K0 w W := hW.kk rfl
  have kW1 : K0 W W1 := hW1.kk rfl
  have kw1 : K0 w W1 := kW.trans kW1
  have hn := hW1.cells 2 rfl
  have hn3 := hW1.cells 0 rfl
  have hgs := kW1.blk (hW.cells 0 rfl) (fun h => h)
  have hR : RowA rlC 3 W1 (some ⟨n, 0, none⟩) exL := rowA_block hn rlC_length
  have hA : RowA axC 39 W1 (some ⟨n3, 0, none⟩) [exA (some ⟨n1, 0, none⟩)] := rowA_block hn3 axC_length
  have hS : StrP W1 (some ⟨n1, 0, none⟩) (exA none).gs := fun j z hz => by
    refine ⟨n1, 0, rfl, ?_⟩
    rw [Nat.zero_add]
    refine cell_at hgs ?_
    have : j = 0 ∨ j = 1 := by have := (List.getElem?_eq_some_iff.1 hz).1; simp [exA] at this; omega
    rcases this with rfl | rfl
    · simp [exA] at hz; subst hz; rfl
    · simp [exA] at hz; subst hz; rfl
  have hX : AXR W1 (exA (some ⟨n1, 0, none⟩)) := ⟨hS, RowA.nil⟩
  have hgl : ∀ z ∈ (exA none).gs, z.size ≤ 60 := by
    intro z hz
    simp [exA] at hz
    rcases hz with rfl | rfl <;> decide
  refine ⟨(eplan_any exL (some ⟨n, 0, none⟩) 2 [exA (some ⟨n1, 0, none⟩)] (some ⟨n3, 0, none⟩) 1 43200 100 W1 hR hA (fun x hx => by simp at hx; subst hx; exact hX) (fun x hx => by
    simp at hx; subst hx
    exact ⟨Nat.le_of_ble_eq_true rfl, fun z hz => by have := hgl z hz; omega, Nat.le_of_ble_eq_true rfl, fun j => by show 0 ≤ exI j ∧ exI j ≤ 255; unfold exI; split <;> decide, fun h hh => by cases hh⟩) (Nat.le_of_ble_eq_true rfl)).mono fun e w2 ⟨k2, he⟩ => ?_⟩
  have e0 : planErr exL ([exA (some ⟨n1, 0, none⟩)].map AX.pl) 43200 100 = 0 := ex_err
  rcases he with ⟨h, _⟩ | ⟨_, R, p', c', he, hown, hplan, hRb⟩
  · exact absurd e0 h
  have hplan : R.map whyS = [(idI exI, 2)] := hplan.trans ex_plan
  obtain ⟨r, rfl⟩ : ∃ r, R = [r] := by
    match R, hplan with
    | [r], _ => exact ⟨r, rfl⟩
    | [], h => simp at h
    | _ :: _ :: _, h => simp at h
  simp only [List.map_cons, List.map_nil, List.cons.injEq, and_true] at hplan
  have hid : idI r.1 = idI exI := congrArg (·.1) hplan
  have hk : r.2 = 2 := congrArg (·.2) hplan
  refine ⟨_, _, _, _, he, .of_k0 k2, ?_⟩
  have d1 : (if chkR exL = 0 then (daysR exL (exA (some ⟨n1, 0, none⟩)).gs).1 else 0) = 5 := by
    rw [if_pos ex_chk]
    exact congrArg (·.1) ex_days
  have d2 : (if chkR exL = 0 then (daysR exL (exA (some ⟨n1, 0, none⟩)).gs).2 else 0) = 30 := by
    rw [if_pos ex_chk]
    exact congrArg (·.2) ex_days
  refine ⟨(eleast_any exL (some ⟨n, 0, none⟩) 2 (exA (some ⟨n1, 0, none⟩)) w2 (hR.k0 k2) (hS.k0 k2) (Nat.le_of_ble_eq_true rfl) (fun z hz => by have := hgl z hz; omega)).mono fun e w3 ⟨he, k3⟩ => ⟨_, he, .of_k0 k3, ?_⟩⟩
  rw [d1]
  refine bsp_intro (fun _ => ?_) (fun h => absurd h (by decide))
  refine ⟨(emost_any exL (some ⟨n, 0, none⟩) 2 (exA (some ⟨n1, 0, none⟩)) w3 (hR.k0 (k2.trans k3)) (hS.k0 (k2.trans k3)) (Nat.le_of_ble_eq_true rfl) (fun z hz => by have := hgl z hz; omega)).mono fun e w4 ⟨he, k4⟩ => ⟨_, he, .of_k0 k4, ?_⟩⟩
  rw [d2]
  have hrow : RowA whyC 33 w4 p' [r] := (RowA.own hown whyC_length (by decide)).k0 (k3.trans k4)
  obtain ⟨b, o, hp, hat⟩ := hrow 0 r rfl
  have harr : whyC r = whyL exI 2 := by
    unfold whyC whyL
    rw [arrI_idI, hid, hk]; rfl
  rw [harr, Nat.zero_mul, Nat.add_zero] at hat
  refine nn_eq hp ⟨gimp_intro fun _ => by simp, exI, 2, gimp_intro fun _ => hat, true, gimp_intro fun _ => whyEq (fun j => by unfold exI; split <;> decide) (by decide), ?_, ((kw1.trans k2).trans k3).trans k4⟩
  rfl

end Go.Proofs.Ytmjanmffnblcoaa

/- Chapter 42: the statements ExpiryHeld and ExpiryRules return true, on worlds. -/
namespace Go.Proofs.Ytmjanmffnblcoaa
open Go.RowKit Go.Sort Go.Maps

theorem smA_sz {x : AX} (h : smA x = true) : x.gs.length ≤ 5 ∧ x.hs.length ≤ 5 ∧ ∀ z ∈ x.gs, z.size ≤ 60 := by
  unfold smA at h
  simp only [Bool.and_eq_true, decide_eq_true_eq, List.all_eq_true] at h
  exact ⟨h.1.1, h.1.2, h.2⟩
theorem smallB_sz {L : List Rl} {l : List AX} (h : smallB L l = true) : (∀ r ∈ L, r.pat.size ≤ 100) ∧ (∀ x ∈ l, smA x = true) ∧ L.length ≤ 10 ∧ l.length ≤ 12 := by
  unfold smallB at h
  simp only [Bool.and_eq_true, decide_eq_true_eq, List.all_eq_true] at h
  exact ⟨h.1.1, h.1.2, h.2.1, h.2.2⟩
/-- What a reading tells of an article. -/
structure ArRd (x : AX) : Prop where
  id : ∀ j, 0 ≤ x.id j ∧ x.id j ≤ 255
  hs : ∀ h ∈ x.hs, ∀ j, 0 ≤ h j ∧ h j ≤ 255
theorem ArRd.sz {x : AX} (h : ArRd x) (hs : smA x = true) : ArSz x := by
  obtain ⟨h1, h2, h3⟩ := smA_sz hs
  exact ⟨by omega, fun z hz => by have := h3 z hz; omega, by omega, h.id, h.hs⟩
set_option maxRecDepth 100000 in
set_option maxHeartbeats 1000000 in
theorem lheld_any (x : AX) (w : World) (hx : AXR w x) (hr : ArRd x) :
    Calls Try.prog 4 #[.agg (axC x).toArray] w fun e w' => e = .returned (.bool true) ∧ K0 w w' := by
  refine vc_lheld x.id x.dt x.ar x.gp x.gs.length x.gc x.by_ x.ct x.hp x.hs.length x.hc x.wd w _ ?_
  intro n W hW
  have kW : K0 w W := hW.kk rfl
  refine ⟨(known_any W).mono fun e w1 ⟨he, k1⟩ => ⟨_, he, .of_k0 k1, bsp_intro (fun _ => ?_) (fun h => absurd h (by decide))⟩⟩
  intro n1 W2 hW2
  have k2 : K0 w1 W2 := hW2.kk rfl
  have kw2 : K0 w W2 := (kW.trans k1).trans k2
  have hrow : RowA axC 39 W2 (some ⟨n1, 0, none⟩) [x] := rowA_block (hW2.cells 0 rfl) axC_length
  refine ⟨(lsmall_any [] none 0 [x] (some ⟨n1, 0, none⟩) 1 W2 RowA.nil hrow (fun y hy => by simp at hy; subst hy; exact hx.gs.k0 kw2) (by simp) (by simp)).mono fun e w3 ⟨he, k3⟩ => ⟨_, he, .of_k0 k3, ?_⟩⟩
  have kw3 : K0 w w3 := kw2.trans k3
  refine bsp_intro (fun _ => ⟨(known_any w3).mono fun e w4 ⟨he, k4⟩ => ⟨_, he, .of_k0 k4, rfl, kw3.trans k4⟩⟩) (fun hs => ?_)
  have hs : smA x = true := (smallB_sz (L := []) (l := [x]) (by simpa using hs)).2.1 x (by simp)
  obtain ⟨hg5, hh5, _⟩ := smA_sz hs
  refine ⟨fun vs w' => ∃ i : Nat, vs = [.int .i64 (i : Int), .bool ((x.hs.take i).any fun h => (h 0).tmod 2 == 1)] ∧ i ≤ x.hs.length ∧ K0 w3 w', fun vs _ => (match vs with | .int _ a :: _ => x.hs.length - a.toNat | _ => 0), ⟨0, rfl, by omega, .refl _ _⟩, ?_⟩
  rintro a b w4 ⟨i, hv, hi, k4⟩ hL4
  simp only [List.cons.injEq, Value.int.injEq, Value.bool.injEq, true_and, and_true] at hv
  obtain ⟨rfl, rfl⟩ := hv
  have kw4 := kw3.trans k4
  refine bsp_intro (fun hlt => ?_) (fun hge => ?_)
  · have hlt : i < x.hs.length := by simp at hlt; omega
    obtain ⟨h, b, o, hy, hp, hat⟩ := (hx.hs.k0 kw4).get hlt
    refine ⟨x.hp, x.hs.length, x.hc, gimp_intro fun _ => cell_at (hL4.cells 0 rfl) rfl, nn_eq hp ⟨gimp_intro fun _ => by omega, gimp_intro fun _ => by omega, h 0, gimp_intro fun _ => by rw [Int.toNat_natCast]; simpa using hat.cell (j := 0) (v := .int .u8 (h 0)) rfl, ⟨i + 1, ?_, hlt, k4⟩, by rw [inc64 (by omega)]; simp only [Int.toNat_natCast]; omega⟩⟩
    rw [inc64 (by omega), take_snoc hy, List.any_append]
    simp
  · have hi : i = x.hs.length := by simp at hge; omega
    subst hi
    rw [List.take_length]
    refine ⟨(larticle_any x w4 (hx.hs.k0 kw4) (by omega)).mono fun e w5 ⟨p', c', he, hown, k5⟩ => ⟨_, _, _, _, _, _, _, _, _, _, _, _, he, .of_k0 k5, ?_⟩⟩
    refine ⟨(eheld_any (x.mv p' c') 17 #[] #[] (fun h => (h 0).tmod 2 == 1) w5 (RowA.own hown idL_length (by decide)) (by show x.hs.length ≤ _; omega) (by kernel_rfl) (fun y _ w6 _ => lodd_any y w6)).mono fun e w6 ⟨he, k6⟩ => ⟨_, he, .of_k0 k6, ?_⟩⟩
    have kw6 : K0 w w6 := (kw4.trans k5).trans k6
    refine bsp_intro (fun _ => ?_) (fun h => by exfalso; simp [AX.mv] at h)
    refine ⟨(larticle_any x w6 (hx.hs.k0 kw6) (by omega)).mono fun e w7 ⟨p2, c2, he, hown2, k7⟩ => ⟨_, _, _, _, _, _, _, _, _, _, _, _, he, .of_k0 k7, ?_⟩⟩
    exact ⟨(eheldN_any (x.mv p2 c2) w7).mono fun e w8 ⟨he, k8⟩ => ⟨_, he, .of_k0 k8, rfl, (kw6.trans k7).trans k8⟩⟩
set_option maxRecDepth 100000 in
set_option maxHeartbeats 1000000 in
theorem lexrules_any (L : List Rl) (p : Option Addr) (c : Nat) (x : AX) (w : World) (hR : RowA rlC 3 w p L) (hL : L.length ≤ 4611686018427387904) (hx : AXR w x) (hr : ArRd x) :
    Calls Try.prog 5 #[.slice p L.length c, .agg (axC x).toArray] w fun e w' => e = .returned (.bool true) ∧ K0 w w' := by
  refine vc_lexrules p L.length c x.id x.dt x.ar x.gp x.gs.length x.gc x.by_ x.ct x.hp x.hs.length x.hc x.wd w _ ?_
  intro n W hW
  have kW : K0 w W := hW.kk rfl
  refine ⟨(known_any W).mono fun e w1 ⟨he, k1⟩ => ⟨_, he, .of_k0 k1, bsp_intro (fun _ => ?_) (fun h => absurd h (by decide))⟩⟩
  intro n1 W2 hW2
  have k2 : K0 w1 W2 := hW2.kk rfl
  have kw2 : K0 w W2 := (kW.trans k1).trans k2
  have hrow : RowA axC 39 W2 (some ⟨n1, 0, none⟩) [x] := rowA_block (hW2.cells 0 rfl) axC_length
  refine ⟨(lsmall_any L p c [x] (some ⟨n1, 0, none⟩) 1 W2 (hR.k0 kw2) hrow (fun y hy => by simp at hy; subst hy; exact hx.gs.k0 kw2) hL (by simp)).mono fun e w3 ⟨he, k3⟩ => ⟨_, he, .of_k0 k3, ?_⟩⟩
  have kw3 : K0 w w3 := kw2.trans k3
  refine bsp_intro (fun _ => ⟨(known_any w3).mono fun e w4 ⟨he, k4⟩ => ⟨_, he, .of_k0 k4, rfl, kw3.trans k4⟩⟩) (fun hs => ?_)
  obtain ⟨hpat, hsm, hL10, _⟩ := smallB_sz (L := L) (l := [x]) (by simpa using hs)
  obtain ⟨hg5, hh5, hz⟩ := smA_sz (hsm x (by simp))
  refine ⟨(lrules_any L p c w3 (hR.k0 kw3) (by omega)).mono fun e w4 ⟨p', c', he, hown, k4⟩ => ⟨_, _, _, he, .of_k0 k4, ?_⟩⟩
  have kw4 := kw3.trans k4
  have hR' : RowA rlC 3 w4 p' L := RowA.own hown rlC_length (by decide)
  refine ⟨(echeck_any L p' c' w4 hR').mono fun e w5 ⟨he, k5⟩ => ⟨_, he, .of_k0 k5, ?_⟩⟩
  have kw5 := kw4.trans k5
  refine ⟨(xcheck_any L p c w5 (hR.k0 kw5)).mono fun e w6 ⟨he, k6⟩ => ⟨_, he, .of_k0 k6, bsp_intro (fun h => by exfalso; simp at h) (fun _ => ?_)⟩⟩
  have kw6 := kw5.trans k6
  refine ⟨(xcheck_any L p c w6 (hR.k0 kw6)).mono fun e w7 ⟨he, k7⟩ => ⟨_, he, .of_k0 k7, ?_⟩⟩
  have kw7 := kw6.trans k7
  have k47 : K0 w4 w7 := (k5.trans k6).trans k7
  -- Least and Most, in a world later on
  have least : ∀ wx, K0 w7 wx → CallsS Try.prog 16 #[.agg (axC x).toArray] wx fun e wy => ∃ (p2 : Option Addr) (c2 : Nat), e = .returned (.agg (axC (x.mv p2 c2)).toArray) ∧ K0 wx wy ∧
      CallsS Try.prog 21 #[.slice p' L.length c', .agg (axC (x.mv p2 c2)).toArray] wy fun e wz => e = .returned (.int .i64 (if chkR L = 0 then (daysR L x.gs).1 else 0)) ∧ K0 wy wz := fun wx kx =>
    ⟨(larticle_any x wx (hx.hs.k0 (kw7.trans kx)) (by omega)).mono fun e wy ⟨p2, c2, he, _, ky⟩ => ⟨p2, c2, he, ky, ⟨eleast_any L p' c' (x.mv p2 c2) wy (hR'.k0 ((k47.trans kx).trans ky)) (hx.gs.k0 ((kw7.trans kx).trans ky)) (by show x.gs.length ≤ _; omega) (fun z h => by have := hz z h; omega)⟩⟩⟩
  have most : ∀ wx, K0 w7 wx → CallsS Try.prog 16 #[.agg (axC x).toArray] wx fun e wy => ∃ (p2 : Option Addr) (c2 : Nat), e = .returned (.agg (axC (x.mv p2 c2)).toArray) ∧ K0 wx wy ∧
      CallsS Try.prog 22 #[.slice p' L.length c', .agg (axC (x.mv p2 c2)).toArray] wy fun e wz => e = .returned (.int .i64 (if chkR L = 0 then (daysR L x.gs).2 else 0)) ∧ K0 wy wz := fun wx kx =>
    ⟨(larticle_any x wx (hx.hs.k0 (kw7.trans kx)) (by omega)).mono fun e wy ⟨p2, c2, he, _, ky⟩ => ⟨p2, c2, he, ky, ⟨emost_any L p' c' (x.mv p2 c2) wy (hR'.k0 ((k47.trans kx).trans ky)) (hx.gs.k0 ((kw7.trans kx).trans ky)) (by show x.gs.length ≤ _; omega) (fun z h => by have := hz z h; omega)⟩⟩⟩
  refine bsp_intro (fun h0 => ?_) (fun h0 => ?_)
  · have h0 : chkR L = 0 := by simpa using h0
    rw [if_pos h0] at least most
    refine ⟨(xdays_any L p c x.gs x.gp x.gc w7 (hR.k0 kw7) h0 (hx.gs.k0 kw7) (by omega) (fun z h => by have := hz z h; omega)).mono fun e w8 ⟨he, k8⟩ => ⟨_, _, he, .of_k0 k8, ?_⟩⟩
    refine ⟨(least w8 k8).1.mono fun e w9 ⟨p2, c2, he, k9, hc⟩ => ⟨_, _, _, _, _, _, _, _, _, _, _, _, he, .of_k0 k9, ?_⟩⟩
    refine ⟨hc.1.mono fun e w10 ⟨he, k10⟩ => ⟨_, he, .of_k0 k10, bsp_intro (fun _ => ?_) (fun h => by exfalso; simp at h)⟩⟩
    have k710 := (k8.trans k9).trans k10
    refine ⟨(most w10 k710).1.mono fun e w11 ⟨p3, c3, he, k11, hc⟩ => ⟨_, _, _, _, _, _, _, _, _, _, _, _, he, .of_k0 k11, ?_⟩⟩
    exact ⟨hc.1.mono fun e w12 ⟨he, k12⟩ => ⟨_, he, .of_k0 k12, by simp, ((kw7.trans k710).trans k11).trans k12⟩⟩
  · have h0 : chkR L ≠ 0 := by simpa using h0
    rw [if_neg h0] at least most
    refine ⟨(least w7 (.refl _ _)).1.mono fun e w9 ⟨p2, c2, he, k9, hc⟩ => ⟨_, _, _, _, _, _, _, _, _, _, _, _, he, .of_k0 k9, ?_⟩⟩
    refine ⟨hc.1.mono fun e w10 ⟨he, k10⟩ => ⟨_, he, .of_k0 k10, bsp_intro (fun _ => ?_) (fun h => absurd h (by decide))⟩⟩
    have k710 := k9.trans k10
    refine ⟨(most w10 k710).1.mono fun e w11 ⟨p3, c3, he, k11, hc⟩ => ⟨_, _, _, _, _, _, _, _, _, _, _, _, he, .of_k0 k11, ?_⟩⟩
    exact ⟨hc.1.mono fun e w12 ⟨he, k12⟩ => ⟨_, he, .of_k0 k12, rfl, ((kw7.trans k710).trans k11).trans k12⟩⟩

end Go.Proofs.Ytmjanmffnblcoaa

/- Chapter 42: rules and articles as arguments, with their sizes. No condition. -/
namespace Go.Proofs.Ytmjanmffnblcoaa
open Go.ChangeShapes Go.WideShapes Go.ChangeAt Go.RowKit Go.Deep

theorem list_of {α : Type} [Inhabited α] {n : Nat} {Q : Nat → α → Prop} (h : ∀ i, i < n → ∃ y, Q i y) : ∃ l : List α, l.length = n ∧ ∀ i y, l[i]? = some y → Q i y := by
  have hex : ∃ g : Nat → α, ∀ i, i < n → Q i (g i) := by
    refine ⟨fun i => if h' : i < n then Classical.choose (h i h') else default, fun i hi => ?_⟩
    simp only [hi, dif_pos]
    exact Classical.choose_spec (h i hi)
  obtain ⟨g, hg⟩ := hex
  refine ⟨(List.range n).map g, by simp, fun i y hy => ?_⟩
  rw [List.getElem?_map] at hy
  rcases Nat.lt_or_ge i n with h' | h'
  · simp [h'] at hy
    subst hy
    exact hg i h'
  · simp [h'] at hy
theorem seven {l : List Value} {a b c d e f g : Value} (hl : l.length = 7) (h0 : (l.drop 0).take 1 = [a]) (h1 : (l.drop 1).take 1 = [b]) (h2 : (l.drop 2).take 1 = [c]) (h3 : (l.drop 3).take 1 = [d]) (h4 : (l.drop 4).take 1 = [e]) (h5 : (l.drop 5).take 1 = [f]) (h6 : (l.drop 6).take 1 = [g]) : l = [a, b, c, d, e, f, g] := by
  match l, hl with
  | [x0, x1, x2, x3, x4, x5, x6], _ => simp at h0 h1 h2 h3 h4 h5 h6; simp [h0, h1, h2, h3, h4, h5, h6]
instance : Inhabited Rl := ⟨⟨ByteArray.empty, 0, 0⟩⟩
section
variable {H : Type} {enc : TypeId × Value → H} {W : World} {base : Nat} {v : Value}
theorem cellsR42 : Try.prog.cellsOf 69 = 3 := by kernel_rfl
theorem cellsA42 : Try.prog.cellsOf 48 = 39 := by kernel_rfl
set_option maxRecDepth 100000 in
/-- Rules that were read. -/
theorem open_RL {cs : List Value} (hr : Rw enc Try.prog W 22 cs) : ∃ (p : Option Addr) (L : List Rl) (c : Nat), cs = [.slice p L.length c] ∧ RowA rlC 3 W p L ∧ L.length ≤ c ∧ L.length ≤ 4611686018427387904 := by
  obtain ⟨p, n, c, hcs, hnc, hby, _, hel⟩ := hr.slice Try.underlying22 (by rw [cellsR42]; decide)
  rw [cellsR42] at hel
  rw [show Try.prog.bytesOf 69 = 32 by kernel_rfl] at hby
  have key : ∀ i, i < n → ∃ y : Rl, ∃ b o, p = some ⟨b, o, none⟩ ∧ AtL W b (o + i * 3) (rlC y) := fun i hi => by
    obtain ⟨b, o, cs', hp, hl, hc, hrw⟩ := hel i hi
    match cs', hl with
    | [c0, c1, c2], _ =>
      obtain ⟨s, e0, _⟩ := Rw.str (cs := [c0]) (hrw.field Try.underlying69 (i := 0) rfl) Try.underlying9
      obtain ⟨n1, e1, _⟩ := Rw.int64 (cs := [c1]) (hrw.field Try.underlying69 (i := 1) rfl) Try.underlying3
      obtain ⟨n2, e2, _⟩ := Rw.int64 (cs := [c2]) (hrw.field Try.underlying69 (i := 2) rfl) Try.underlying3
      simp only [List.cons.injEq, and_true] at e0 e1 e2
      subst e0 e1 e2
      exact ⟨⟨s, n1, n2⟩, b, o, hp, ⟨At_of _ _ fun j v hv => hc j v hv⟩⟩
  obtain ⟨L, hlen, hL⟩ := list_of key
  exact ⟨p, L, c, by rw [hlen]; exact hcs, hL, by omega, by omega⟩
set_option maxRecDepth 100000 in
/-- Identities that were read. -/
theorem open_IL {cs : List Value} (hr : Rw enc Try.prog W 46 cs) : ∃ (p : Option Addr) (l : List (Nat → Int)) (c : Nat), cs = [.slice p l.length c] ∧ RowA idL 32 W p l ∧ ∀ h ∈ l, ∀ j, 0 ≤ h j ∧ h j ≤ 255 := by
  have c32 : Try.prog.cellsOf 37 = 32 := by kernel_rfl
  obtain ⟨p, n, c, hcs, hnc, hby, _, hel⟩ := hr.slice Try.underlying46 (by rw [c32]; decide)
  rw [c32] at hel
  have key : ∀ i, i < n → ∃ y : Nat → Int, (∃ b o, p = some ⟨b, o, none⟩ ∧ AtL W b (o + i * 32) (idL y)) ∧ ∀ j, 0 ≤ y j ∧ y j ≤ 255 := fun i hi => by
    obtain ⟨b, o, cs', hp, hl, hc, hrw⟩ := hel i hi
    obtain ⟨f, e0, hf⟩ := Rw.bytes hrw Try.underlying37 Try.underlying5 (by kernel_rfl) (by kernel_rfl)
    subst e0
    exact ⟨f, ⟨b, o, hp, ⟨At_of _ _ fun j v hv => hc j v hv⟩⟩, hf⟩
  obtain ⟨l, hlen, hL⟩ := list_of key
  exact ⟨p, l, c, by rw [hlen]; exact hcs, fun k y hy => (hL k y hy).1, fun h hh => by
    obtain ⟨j, hj, e⟩ := List.getElem_of_mem hh
    exact (hL j h (by rw [List.getElem?_eq_getElem hj, e])).2⟩
set_option maxRecDepth 100000 in
/-- The cells of an article that was read. -/
theorem rw_A {l : List Value} (hl : l.length = 39) (hr : Rw enc Try.prog W 48 l) : ∃ x : AX, l = axC x ∧ AXR W x ∧ ArRd x := by
  obtain ⟨f, e0, hf⟩ := Rw.bytes (cs := (l.drop 0).take 32) (hr.field Try.underlying48 (i := 0) rfl) Try.underlying37 Try.underlying5 (by kernel_rfl) (by kernel_rfl)
  obtain ⟨n1, e1, _⟩ := Rw.int64 (cs := (l.drop 32).take 1) (hr.field Try.underlying48 (i := 1) rfl) Try.underlying3
  obtain ⟨n2, e2, _⟩ := Rw.int64 (cs := (l.drop 33).take 1) (hr.field Try.underlying48 (i := 2) rfl) Try.underlying3
  obtain ⟨gp, gs, gc, e3, _, _, hg, _⟩ := Rw.strs (cs := (l.drop 34).take 1) (hr.field Try.underlying48 (i := 3) rfl) Try.underlying39 Try.underlying9 (by kernel_rfl)
  obtain ⟨n4, e4, _⟩ := Rw.int64 (cs := (l.drop 35).take 1) (hr.field Try.underlying48 (i := 4) rfl) Try.underlying3
  obtain ⟨n5, e5, _⟩ := Rw.int64 (cs := (l.drop 36).take 1) (hr.field Try.underlying48 (i := 5) rfl) Try.underlying3
  obtain ⟨hp, hs, hc, e6, hh, hhb⟩ := open_IL (cs := (l.drop 37).take 1) (hr.field Try.underlying48 (i := 6) rfl)
  obtain ⟨b7, e7⟩ := Rw.bool (cs := (l.drop 38).take 1) (hr.field Try.underlying48 (i := 7) rfl) Try.underlying4
  have hd : ∀ k, l.drop (32 + k) = (l.drop 32).drop k := fun k => by rw [List.drop_drop]
  have e8 := seven (l := l.drop 32) (by simp [hl]) e1 (by rw [← hd]; exact e2) (by rw [← hd]; exact e3) (by rw [← hd]; exact e4) (by rw [← hd]; exact e5) (by rw [← hd]; exact e6) (by rw [← hd]; exact e7)
  have hl2 : l = arrI .u8 f 32 0 ++ [Value.int .i64 n1, Value.int .i64 n2, Value.slice gp gs.length gc, Value.int .i64 n4, Value.int .i64 n5, Value.slice hp hs.length hc, Value.bool b7] := by
    rw [← List.take_append_drop 32 l, e8]
    congr 1
  exact ⟨⟨f, n1, n2, gp, gc, gs, n4, n5, hp, hc, hs, b7⟩, hl2, ⟨hg, hh⟩, ⟨hf, hhb⟩⟩
set_option maxRecDepth 100000 in
/-- Articles that were read. -/
theorem open_AL {cs : List Value} (hr : Rw enc Try.prog W 23 cs) : ∃ (p : Option Addr) (l : List AX) (c : Nat), cs = [.slice p l.length c] ∧ RowA axC 39 W p l ∧ (∀ x ∈ l, AXR W x ∧ ArRd x) ∧ l.length ≤ c ∧ l.length ≤ 4611686018427387904 := by
  obtain ⟨p, n, c, hcs, hnc, hby, _, hel⟩ := hr.slice Try.underlying23 (by rw [cellsA42]; decide)
  rw [cellsA42] at hel
  rw [show Try.prog.bytesOf 48 = 120 by kernel_rfl] at hby
  have key : ∀ i, i < n → ∃ y : AX, (∃ b o, p = some ⟨b, o, none⟩ ∧ AtL W b (o + i * 39) (axC y)) ∧ AXR W y ∧ ArRd y := fun i hi => by
    obtain ⟨b, o, cs', hp, hl, hc, hrw⟩ := hel i hi
    obtain ⟨x, rfl, h1, h2⟩ := rw_A hl hrw
    exact ⟨x, ⟨b, o, hp, ⟨At_of _ _ fun j v hv => hc j v hv⟩⟩, h1, h2⟩
  obtain ⟨l, hlen, hL⟩ := list_of key
  exact ⟨p, l, c, by rw [hlen]; exact hcs, fun k y hy => (hL k y hy).1, fun x hx => by
    obtain ⟨j, hj, e⟩ := List.getElem_of_mem hx
    exact (hL j x (by rw [List.getElem?_eq_getElem hj, e])).2, by omega, by omega⟩
set_option maxRecDepth 100000 in
theorem openw_A (hv : Value.okWide Try.prog W .any base 48 v) (hr : Rw enc Try.prog W 48 v.cells.toList) : ∃ x : AX, v = .agg (axC x).toArray ∧ AXR W x ∧ ArRd x := by
  obtain ⟨cs, rfl, hsz⟩ := okWide_struct Try.underlying48 hv
  rw [cellsA42] at hsz
  obtain ⟨l⟩ := cs
  obtain ⟨x, h1, h2⟩ := rw_A (l := l) hsz hr
  exact ⟨x, congrArg (fun l : List Value => Value.agg l.toArray) h1, h2⟩
set_option maxRecDepth 100000 in
theorem openw_RL (hv : Value.okWide Try.prog W .any base 22 v) (hr : Rw enc Try.prog W 22 v.cells.toList) : ∃ (p : Option Addr) (L : List Rl) (c : Nat), v = .slice p L.length c ∧ RowA rlC 3 W p L ∧ L.length ≤ 4611686018427387904 := by
  obtain ⟨p, n, c, rfl⟩ := okWide_slice Try.underlying22 hv
  obtain ⟨p', L, c', h, h1, _, h2⟩ := open_RL hr
  have h : [Value.slice p n c] = [.slice p' L.length c'] := h
  simp only [List.cons.injEq, and_true] at h
  exact ⟨p', L, c', h, h1, h2⟩
set_option maxRecDepth 100000 in
/-- The arguments of a plan. -/
theorem openw_C (hv : Value.okWide Try.prog W .any base 25 v) (hr : Rw enc Try.prog W 25 v.cells.toList) :
    ∃ (p : Option Addr) (L : List Rl) (c : Nat) (q : Option Addr) (l : List AX) (d : Nat) (now budget : Int), v = .agg #[.slice p L.length c, .slice q l.length d, .int .i64 now, .int .i64 budget] ∧ RowA rlC 3 W p L ∧ L.length ≤ 4611686018427387904 ∧ RowA axC 39 W q l ∧ (∀ x ∈ l, AXR W x ∧ ArRd x) ∧ l.length ≤ d ∧ l.length ≤ 4611686018427387904 := by
  obtain ⟨cs, rfl, hsz⟩ := okWide_struct Try.underlying25 hv
  rw [show Try.prog.cellsOf 25 = 4 by kernel_rfl] at hsz
  obtain ⟨l⟩ := cs
  match l, hsz with
  | [c0, c1, c2, c3], _ =>
    have hr : Rw enc Try.prog W 25 [c0, c1, c2, c3] := hr
    obtain ⟨p, L, c, e0, h1, _, h2⟩ := open_RL (cs := [c0]) (hr.field Try.underlying25 (i := 0) rfl)
    obtain ⟨q, l, d, e1, h3, h4, h5, h6⟩ := open_AL (cs := [c1]) (hr.field Try.underlying25 (i := 1) rfl)
    obtain ⟨n2, e2, _⟩ := Rw.int64 (cs := [c2]) (hr.field Try.underlying25 (i := 2) rfl) Try.underlying3
    obtain ⟨n3, e3, _⟩ := Rw.int64 (cs := [c3]) (hr.field Try.underlying25 (i := 3) rfl) Try.underlying3
    simp only [List.cons.injEq, and_true] at e0 e1 e2 e3
    subst e0 e1 e2 e3
    exact ⟨p, L, c, q, l, d, n2, n3, rfl, h1, h2, h3, h4, h5, h6⟩
end
end Go.Proofs.Ytmjanmffnblcoaa

/- The formulas of functions by the symbolic evaluator, and that each gives the call's contract. Written by a program (gen.py). No condition. -/
namespace Go.Proofs.Ytmjanmffnblcoaa
set_option maxRecDepth 100000
set_option linter.unusedVariables false

def VC_cloneS (p : Option Addr) (n : Nat) (c : Nat) (w : World) (R : Ending → World → Prop) : Prop :=
 bsp p.isNone (R (Ending.returned (Value.slice none 0 0)) w)
 (∀ (n_1 : Nat) (W : World),
 Loc w.heap.size [Blk.mk n_1 9 [] 2] w W →
 ∃ (base : Nat),
 ∃ (xs : List Value),
 ∃ (news : List Value),
 W.ownsRow base 9 1 (Value.slice (some (Addr.mk n_1 0 none)) 0 0) 0 xs ∧
 news.length = n * 1 ∧
 SrcP W p news ∧
 0 + n ≤ 9223372036854775807 ∧
 (0 + n) * 16 ≤ 140737488355328 ∧
 base ≤ W.heap.size ∧
 ∀ (p' : Option Addr) (c' : Nat) (w' : World),
 w'.ownsRow base 9 1 (Value.slice p' (0 + n) c') (0 + n) (xs ++ news) →
 W.grownBy w' (Value.slice (some (Addr.mk n_1 0 none)) 0 0).ownBlock →
 (0 + n ≤ 0 → p' = some (Addr.mk n_1 0 none) ∧ c' = 0) →
 KeptL [] W w' ∧ R (Ending.returned (Value.slice p' (0 + n) c')) w')
theorem vc_cloneS (p : Option Addr) (n : Nat) (c : Nat) (w : World) (R : Ending → World → Prop) (h : VC_cloneS p n c w R) : Calls Try.prog 43 ([Value.slice
    p n c] : List Value).toArray w R := by
  have e : execR2 { P := Try.prog, loops := [], pur := pur0, tails := [], joins := [], boxes := [] } Try.f43.results.toList R (Try.f43.body.getD .skip) (initF [Value.slice
    p n c] (Try.f43.ntmps - ([Value.slice p n c] : List Value).length)) w = VC_cloneS p n c w R := by kernel_rfl
  have hb : Try.f43.body = some (Try.f43.body.getD .skip) := by kernel_rfl
  exact calls_of_exec2' (P := Try.prog) (fn := Try.f43) (c := Try.f43.body.getD .skip) (args := [Value.slice p n
    c]) (w := w) (R := R) pur0_ok Try.func43 hb e h

def VC_cloneI (p : Option Addr) (n : Nat) (c : Nat) (w : World) (R : Ending → World → Prop) : Prop :=
 bsp p.isNone (R (Ending.returned (Value.slice none 0 0)) w)
 (∀ (n_1 : Nat) (W : World),
 Loc w.heap.size [Blk.mk n_1 38 [] 2] w W →
 ∃ (base : Nat),
 ∃ (xs : List Value),
 ∃ (news : List Value),
 W.ownsRow base 38 32 (Value.slice (some (Addr.mk n_1 0 none)) 0 0) 0 xs ∧
 news.length = n * 32 ∧
 SrcP W p news ∧
 0 + n ≤ 9223372036854775807 ∧
 (0 + n) * 32 ≤ 140737488355328 ∧
 base ≤ W.heap.size ∧
 ∀ (p' : Option Addr) (c' : Nat) (w' : World),
 w'.ownsRow base 38 32 (Value.slice p' (0 + n) c') (0 + n) (xs ++ news) →
 W.grownBy w' (Value.slice (some (Addr.mk n_1 0 none)) 0 0).ownBlock →
 (0 + n ≤ 0 → p' = some (Addr.mk n_1 0 none) ∧ c' = 0) →
 KeptL [] W w' ∧ R (Ending.returned (Value.slice p' (0 + n) c')) w')
theorem vc_cloneI (p : Option Addr) (n : Nat) (c : Nat) (w : World) (R : Ending → World → Prop) (h : VC_cloneI p n c w R) : Calls Try.prog 44 ([Value.slice
    p n c] : List Value).toArray w R := by
  have e : execR2 { P := Try.prog, loops := [], pur := pur0, tails := [], joins := [], boxes := [] } Try.f44.results.toList R (Try.f44.body.getD .skip) (initF [Value.slice
    p n c] (Try.f44.ntmps - ([Value.slice p n c] : List Value).length)) w = VC_cloneI p n c w R := by kernel_rfl
  have hb : Try.f44.body = some (Try.f44.body.getD .skip) := by kernel_rfl
  exact calls_of_exec2' (P := Try.prog) (fn := Try.f44) (c := Try.f44.body.getD .skip) (args := [Value.slice p n
    c]) (w := w) (R := R) pur0_ok Try.func44 hb e h

end Go.Proofs.Ytmjanmffnblcoaa

/- Chapter 42: the contracts of slices.Clone and After. No condition but sizes. -/
namespace Go.Proofs.Ytmjanmffnblcoaa
open Go.RowKit Go.Sort Go.Maps

theorem str_none {w : World} {gs : List ByteArray} (h : StrP w none gs) : gs = [] := by
  cases gs with
  | nil => rfl
  | cons z r => obtain ⟨b, o, h1, _⟩ := h 0 z rfl; cases h1
theorem rowA_none {α : Type} {f : α → List Value} {L : Nat} {w : World} {l : List α} (h : RowA f L w none l) : l = [] := by
  cases l with
  | nil => rfl
  | cons z r => obtain ⟨b, o, h1, _⟩ := h 0 z rfl; cases h1
theorem src_str {w : World} {p : Option Addr} {gs : List ByteArray} (h : StrP w p gs) : SrcP w p (gs.map Value.string) := by
  refine ⟨fun j u hj => ?_, fun u hu => by obtain ⟨z, _, rfl⟩ := List.mem_map.1 hu; rfl⟩
  rw [List.getElem?_map] at hj
  cases hz : gs[j]? with
  | none => rw [hz] at hj; cases hj
  | some z =>
    rw [hz] at hj
    simp at hj
    subst hj
    obtain ⟨b, o, h1, h2⟩ := h j z hz
    exact ⟨b, o, h1, h2⟩
theorem idL_flat (l : List (Nat → Int)) : (l.flatMap idL).length = l.length * 32 := len_flat idL 32 l (fun _ _ => rfl)
theorem src_ids {w : World} {p : Option Addr} {l : List (Nat → Int)} (h : RowA idL 32 w p l) : SrcP w p (l.flatMap idL) := by
  refine ⟨fun j u hj => ?_, fun u hu => by obtain ⟨z, _, hz⟩ := List.mem_flatMap.1 hu; exact idL_one z u hz⟩
  have hlt := (List.getElem?_eq_some_iff.1 hj).1
  rw [idL_flat] at hlt
  obtain ⟨y, b, o, hy, hp, hat⟩ := h.get (k := j / 32) (by omega)
  have h1 := flat_get idL 32 l (j / 32) y (j % 32) (fun _ _ => rfl) hy (by omega)
  rw [show j / 32 * 32 + j % 32 = j by omega, hj] at h1
  refine ⟨b, o, hp, ?_⟩
  have := hat.cell h1.symm
  rwa [show o + j / 32 * 32 + j % 32 = o + j by omega] at this
theorem cloneS_any (gs : List ByteArray) (p : Option Addr) (c : Nat) (w : World) (h : StrP w p gs) (hl : gs.length ≤ 1000) :
    Calls Try.prog 43 #[.slice p gs.length c] w fun e w' => ∃ (p' : Option Addr) (c' : Nat), e = .returned (.slice p' gs.length c') ∧ w'.ownsRow w.heap.size 9 1 (.slice p' gs.length c') gs.length (gs.map Value.string) ∧ K0 w w' := by
  refine vc_cloneS p gs.length c w _ ?_
  unfold VC_cloneS
  refine bsp_intro (fun hn => ?_) (fun _ => ?_)
  · have hp : p = none := by simpa using hn
    subst hp
    obtain rfl := str_none h
    exact ⟨none, 0, rfl, World.ownsRow_nil _ _ _ _, .refl _ _⟩
  intro n1 W hW
  have kW : K0 w W := hW.kk rfl
  have g1 : w.heap.size ≤ n1 := hW.fresh 0 rfl rfl
  refine ⟨w.heap.size, [], gs.map Value.string, own_none g1 (hW.cells 0 rfl), by simp, src_str (h.k0 kW), by omega, by omega, kW.size, fun p' c' w2 ho2 hg2 _ => ?_⟩
  have k2 := kp_grown hg2
  rw [Nat.zero_add, List.nil_append] at ho2
  have kw2 : K0 w w2 := kW.fresh k2 (fun j hj e => by simp [Value.ownBlock] at e; omega)
  refine ⟨.of_kp k2 (fun z hz => by cases hz), p', c', by rw [Nat.zero_add], ho2, kw2⟩
theorem cloneI_any (l : List (Nat → Int)) (p : Option Addr) (c : Nat) (w : World) (h : RowA idL 32 w p l) (hl : l.length ≤ 1000) :
    Calls Try.prog 44 #[.slice p l.length c] w fun e w' => ∃ (p' : Option Addr) (c' : Nat), e = .returned (.slice p' l.length c') ∧ w'.ownsRow w.heap.size 38 32 (.slice p' l.length c') l.length (l.flatMap idL) ∧ K0 w w' := by
  refine vc_cloneI p l.length c w _ ?_
  unfold VC_cloneI
  refine bsp_intro (fun hn => ?_) (fun _ => ?_)
  · have hp : p = none := by simpa using hn
    subst hp
    obtain rfl := rowA_none h
    exact ⟨none, 0, rfl, World.ownsRow_nil _ _ _ _, .refl _ _⟩
  intro n1 W hW
  have kW : K0 w W := hW.kk rfl
  have g1 : w.heap.size ≤ n1 := hW.fresh 0 rfl rfl
  refine ⟨w.heap.size, [], l.flatMap idL, own_none g1 (hW.cells 0 rfl), idL_flat l, src_ids (h.k0 kW), by omega, by omega, kW.size, fun p' c' w2 ho2 hg2 _ => ?_⟩
  have k2 := kp_grown hg2
  rw [Nat.zero_add, List.nil_append] at ho2
  have kw2 : K0 w w2 := kW.fresh k2 (fun j hj e => by simp [Value.ownBlock] at e; omega)
  refine ⟨.of_kp k2 (fun z hz => by cases hz), p', c', by rw [Nat.zero_add], ho2, kw2⟩

def AX.nw (x : AX) (p : Option Addr) (c : Nat) (q : Option Addr) (d : Nat) : AX := { x with gp := p, gc := c, hp := q, hc := d }
/-- An article whose rows are new. -/
structure AXT (N : Nat) (w : World) (x : AX) : Prop where
  gs : w.ownsRow N 9 1 (.slice x.gp x.gs.length x.gc) x.gs.length (x.gs.map Value.string)
  hs : w.ownsRow N 38 32 (.slice x.hp x.hs.length x.hc) x.hs.length (x.hs.flatMap idL)
theorem AXT.r {N : Nat} {w : World} {x : AX} (h : AXT N w x) : AXR w x := ⟨(own_strP h.gs).2.2.1, RowA.own h.hs idL_length (by decide)⟩
theorem AXT.k {N : Nat} {w w' : World} {x : AX} (h : AXT N w x) (hk : K0 w w') : AXT N w' x := ⟨owns_kp h.gs hk (fun _ _ h => h), owns_kp h.hs hk (fun _ _ h => h)⟩
/-- Blocks of articles are written. -/
theorem AXT.kpT {N : Nat} {M : Nat → Prop} {w w' : World} {x : AX} (h : AXT N w x) (hk : Kp M w w') (hm : ∀ k, M k → ∃ c f, w.heap[k]? = some (.cells c 42 f)) : AXT N w' x :=
  ⟨owns_kp h.gs hk (fun k hk e => by obtain ⟨c, f, hc⟩ := hm k e; exact own_not h.gs hc rfl hk), owns_kp h.hs hk (fun k hk e => by obtain ⟨c, f, hc⟩ := hm k e; exact own_not h.hs hc rfl hk)⟩
def keepB (R : List ((Nat → Int) × Nat)) (x : AX) : Bool := !decide (idI x.id ∈ R.map fun r => idI r.1)
set_option maxRecDepth 100000 in
set_option maxHeartbeats 2000000 in
theorem eafter_any (l : List AX) (p : Option Addr) (c : Nat) (R : List ((Nat → Int) × Nat)) (q : Option Addr) (d : Nat) (w : World) (hA : RowA axC 39 w p l) (hX : ∀ x ∈ l, AXR w x) (hS : RowA whyC 33 w q R) (hl : l.length ≤ 1000) (hr : R.length ≤ 1000) (hb : ∀ x ∈ l, ∀ j, 0 ≤ x.id j ∧ x.id j ≤ 255) (hrb : ∀ r ∈ R, ∀ j, 0 ≤ r.1 j ∧ r.1 j ≤ 255)
    (hg : ∀ x ∈ l, x.gs.length ≤ 1000 ∧ x.hs.length ≤ 1000) :
    Calls Try.prog 25 #[.slice p l.length c, .slice q R.length d] w fun e w' => ∃ (T : List AX) (p' : Option Addr) (c' : Nat), e = .returned (.slice p' T.length c') ∧ T.map AX.core = (l.filter (keepB R)).map AX.core ∧ w'.ownsRow w.heap.size 42 39 (.slice p' T.length c') T.length (T.flatMap axC) ∧ (∀ x ∈ T, AXT w.heap.size w' x) ∧ K0 w w' := by
  refine vc_eafter p l.length c q R.length d w _ ?_
  intro n1 w1 hn1
  have k1 : K0 w w1 := hn1.kp _
  have g1 : w.heap.size ≤ n1 := hn1.ge
  refine ⟨.of_k0 k1, fun vs w' => ∃ (i : Nat) (ml : List (List Int × Value)), vs = [.int .i64 (i : Int)] ∧ i ≤ R.length ∧ MapB Try.prog 38 byA w' n1 ml ∧ (∀ j, (j ∈ (R.take i).map (fun r => idI r.1) → aget ml j = some (Value.bool true)) ∧ (j ∉ (R.take i).map (fun r => idI r.1) → aget ml j = none)) ∧ K0 w w',
    fun vs _ => (match vs with | .int _ x :: _ => R.length - x.toNat | _ => 0), ⟨0, [], rfl, by omega, hn1.map, (fun j => ⟨(fun h => by cases h), fun _ => rfl⟩), k1⟩, ?_⟩
  rintro x w2 ⟨i, ml, hv, hi, hm, hmi, k2⟩
  simp only [List.cons.injEq, Value.int.injEq, true_and, and_true] at hv
  subst hv
  refine bsp_intro (fun hlt => ?_) (fun hge => ?_)
  · have hlt : i < R.length := by simp at hlt; omega
    obtain ⟨r, b, o, hy, hq, hat⟩ := (hS.k0 k2).get hlt
    have hry := hrb r (List.mem_of_getElem? hy)
    refine nn_eq hq ⟨by omega, r.1, (r.2 : Int), by rw [Int.toNat_natCast]; exact hat, fun n3 W3 hW3 => ?_⟩
    have k3 : K0 w2 W3 := hW3.kk rfl
    have hm3 := hm.kp k3 (fun h => h)
    obtain ⟨w4, hu, hm4, k4⟩ := MapB.upd byA_inj hm3 idKeyed Try.underlying97 (idKey (idI_len r.1) (idI_bd hry)) (.bool true)
    have hn3 : n3 ≠ n1 := by
      have h1 := hm.lt
      have h2 := hW3.fresh 0 rfl rfl
      simp only at h2
      omega
    refine ⟨w4, hu, .of_kp k4 (fun m hmm => by simp at hmm; subst hmm; exact hn3), ⟨i + 1, _, by rw [inc64 (by omega)], hlt, hm4, fun j => ?_, Kp.fresh (k2.trans k3) k4 (fun j hj e => by omega)⟩, by rw [inc64 (by omega)]; simp only [Int.toNat_natCast]; omega⟩
    rw [aget_aset, take_snoc hy, List.map_append]
    obtain ⟨m1, m2⟩ := hmi j
    refine ⟨fun hj => ?_, fun hj => ?_⟩
    · by_cases e : idI r.1 = j
      · rw [if_pos e]
      · rw [if_neg e]
        refine m1 ?_
        rcases List.mem_append.1 hj with h | h
        · exact h
        · simp at h; exact absurd h.symm e
    · have h1 : ¬ idI r.1 = j := fun e => hj (List.mem_append_right _ (by simp [e]))
      rw [if_neg h1]
      exact m2 fun h => hj (List.mem_append_left _ h)
  have hi : i = R.length := by simp at hge; omega
  subst hi
  rw [List.take_length] at hmi
  obtain ⟨es, cl, hmb, _⟩ := hm.blk
  -- the articles
  refine ⟨fun vs w' => ∃ (i : Nat) (T : List AX) (p' : Option Addr) (c' : Nat), vs = [.int .i64 (i : Int), .slice p' T.length c'] ∧ i ≤ l.length ∧ T.length ≤ i ∧ T.map AX.core = ((l.take i).filter (keepB R)).map AX.core ∧ w'.ownsRow w.heap.size 42 39 (.slice p' T.length c') T.length (T.flatMap axC) ∧ (∀ x ∈ T, AXT w.heap.size w' x) ∧ MapB Try.prog 38 byA w' n1 ml ∧ K0 w w',
    fun vs _ => (match vs with | .int _ x :: _ => l.length - x.toNat | _ => 0), ⟨0, [], none, 0, rfl, by omega, by simp, rfl, World.ownsRow_nil _ _ _ _, (fun x hx => by cases hx), hm, k2⟩, ?_⟩
  rintro x p1 n2 c1 w3 ⟨i, T, p1', c1', hv, hi, hTi, hcore, ho, hT, hm3, k3⟩
  simp only [List.cons.injEq, Value.int.injEq, Value.slice.injEq, true_and, and_true] at hv
  obtain ⟨rfl, rfl, rfl, rfl⟩ := hv
  refine bsp_intro (fun hlt => ?_) (fun hge => ?_)
  rotate_left
  · have hi : i = l.length := by simp at hge; omega
    rw [hi, List.take_length] at hcore
    exact ⟨T, p1, c1, rfl, hcore, ho, hT, k3⟩
  have hlt : i < l.length := by simp at hlt; omega
  obtain ⟨y, b, o, hy, hp, hat⟩ := (hA.k0 k3).get hlt
  have hyl := List.mem_of_getElem? hy
  have hyb := hb y hyl
  have hyX := hX y hyl
  have hfil : (l.take (i + 1)).filter (keepB R) = (l.take i).filter (keepB R) ++ (if keepB R y = true then [y] else []) := by
    rw [take_snoc hy, List.filter_append]
    congr 1
    cases h : keepB R y <;> simp [h]
  refine nn_eq hp ⟨by omega, y.id, y.dt, y.ar, y.gp, y.gs.length, y.gc, y.by_, y.ct, y.hp, y.hs.length, y.hc, y.wd, by rw [Int.toNat_natCast]; exact hat, fun n4 => ?_⟩
  refine ⟨decide (idI y.id ∈ R.map fun r => idI r.1), fun W4 hW4 => ?_, ?_⟩
  · have := MapB.look byA_inj (hm3.kp (hW4.kk rfl) (fun h => h)) idKeyed Try.underlying97 (zeroBool W4) (idKey (idI_len y.id) (idI_bd hyb)) false
    simp only at this
    by_cases h : idI y.id ∈ R.map fun r => idI r.1
    · rw [(hmi _).1 h] at this
      rw [decide_eq_true h]
      exact this
    · rw [(hmi _).2 h] at this
      rw [decide_eq_false h]
      exact this
  refine bsp_intro (fun hkeep W4 hW4 => ?_) (fun hkeep W4 hW4 => ?_)
  rotate_left
  · have hk : keepB R y = false := by unfold keepB; exact hkeep
    rw [if_neg (by simp [hk]), List.append_nil] at hfil
    have k4 : K0 w3 W4 := hW4.kk rfl
    exact ⟨⟨i + 1, T, p1, c1, by rw [inc64 (by omega)], hlt, by omega, by rw [hfil]; exact hcore, owns_kp ho k4 (fun _ _ h => h), fun x hx => (hT x hx).k k4, hm3.kp k4 (fun h => h), k3.trans k4⟩, by rw [inc64 (by omega)]; simp only [Int.toNat_natCast]; omega⟩
  have hk : keepB R y = true := by unfold keepB; exact hkeep
  rw [if_pos hk] at hfil
  have k4 : K0 w3 W4 := hW4.kk rfl
  have kw4 : K0 w W4 := k3.trans k4
  have hb4 := hW4.cells 0 rfl
  have g4 : w3.heap.size ≤ n4 := hW4.fresh 0 rfl rfl
  refine ⟨fun wx => K0 W4 wx, .refl _ _, y.gp, y.gs.length, y.gc, fun wx kx => cell_at (kx.blk hb4 (fun h => h)) rfl, y.hp, y.hs.length, y.hc, fun wx kx => cell_at (kx.blk hb4 (fun h => h)) rfl, ?_⟩
  refine ⟨(cloneS_any y.gs y.gp y.gc W4 (hyX.gs.k0 kw4) (hg y hyl).1).mono fun e w5 ⟨p5, c5, he, ho5, k5⟩ => ⟨_, _, _, he, k5, ?_⟩⟩
  refine ⟨(cloneI_any y.hs y.hp y.hc w5 (hyX.hs.k0 (kw4.trans k5)) (hg y hyl).2).mono fun e w6 ⟨p6, c6, he, ho6, k6⟩ => ⟨_, _, _, he, ?_⟩⟩
  have k46 : K0 W4 w6 := k5.trans k6
  have hb6 := k46.blk hb4 (fun h => h)
  refine ⟨cell_wr2 hb6 rfl, fun w7 hp7 => ?_⟩
  have hb7 := hp7.block hb6
  refine ⟨cell_wr2 hb7 rfl, fun w8 hp8 => ?_⟩
  have hb8 := hp8.block hb7
  have kp68 : Kp (· = n4) w6 w8 := hp7.kp.trans hp8.kp
  have kw8 : K0 w w8 := Kp.fresh (kw4.trans k46) kp68 (fun j hj e => by have := k3.size; omega)
  refine ⟨.of_kp (M := fun _ => True) ((k46.mono fun _ _ h => h.elim).trans (kp68.mono fun _ _ _ => trivial)) (fun z hz => by cases hz), y.id, y.dt, y.ar, p5, y.gs.length, c5, y.by_, y.ct, p6, y.hs.length, c6, y.wd, AtL_block hb8 rfl, fun n8 W9 hW9 => ?_⟩
  have k9 : K0 w8 W9 := hW9.kk rfl
  -- the row of articles and what it holds
  have isA : ∀ k, k = n4 → ∃ c f, w6.heap[k]? = some (.cells c 42 f) := fun k e => by subst e; exact ⟨_, _, hb6⟩
  have hT9 : ∀ x ∈ T, AXT w.heap.size W9 x := fun x hx => (((hT x hx).k (k4.trans k46)).kpT kp68 isA).k k9
  have hnew : AXT w.heap.size W9 (y.nw p5 c5 p6 c6) := by
    refine (AXT.kpT (w := w6) ⟨?_, ?_⟩ kp68 isA).k k9
    · exact own_base (owns_kp ho5 k6 (fun _ _ h => h)) kw4.size
    · exact own_base ho6 (kw4.trans k5).size
  have ho6r := owns_kp ho (k4.trans k46) (fun _ _ h => h)
  have n4r : ∀ k, (Value.slice p1 T.length c1).ownBlock = some k → ¬ k = n4 := fun k hk e => by
    have := own_lt ho hk
    omega
  have ho9 := owns_kp (owns_kp ho6r kp68 n4r) k9 (fun _ _ h => h)
  have hm9 := ((hm3.kp (k4.trans k46) (fun h => h)).kp kp68 (fun e => by have := hm3.lt; omega)).kp k9 (fun h => h)
  have kw9 : K0 w W9 := kw8.trans k9
  refine ⟨w.heap.size, _, ho9, by omega, by omega, kw9.size, fun p10 c10 w10 ho10 hg10 _ => ?_⟩
  have k10 := kp_grown hg10
  have isR : ∀ k, (Value.slice p1 T.length c1).ownBlock = some k → ∃ c f, W9.heap[k]? = some (.cells c 42 f) := fun k e => by
    obtain ⟨cc, hcc⟩ := own_type ho9 e
    exact ⟨_, _, hcc⟩
  obtain ⟨es9, cl9, hmb9, _⟩ := hm9.blk
  refine ⟨.of_kp k10 (fun z hz => by cases hz), ⟨i + 1, T ++ [(y.nw p5 c5 p6 c6)], p10, c10, by rw [inc64 (by omega)]; simp, hlt, by simp; omega, ?_, ?_, fun x hx => ?_, hm9.kp k10 (own_notMap ho9 hmb9), kw9.fresh k10 (fun j hj e => by have := own_ge ho9 e; omega)⟩, by rw [inc64 (by omega)]; simp only [Int.toNat_natCast]; omega⟩
  · rw [hfil, List.map_append, List.map_append, hcore]
    rfl
  · rw [List.flatMap_append, show (T ++ [(y.nw p5 c5 p6 c6)]).length = T.length + 1 by simp]
    rw [show [(y.nw p5 c5 p6 c6)].flatMap axC = axC (y.nw p5 c5 p6 c6) by simp]
    exact ho10
  · rcases List.mem_append.1 hx with h | h
    · exact (hT9 x h).kpT k10 isR
    · simp at h
      subst h
      exact hnew.kpT k10 isR

end Go.Proofs.Ytmjanmffnblcoaa

/- Chapter 42, plain: what stays, what goes and what the order does to the reference's plan. No program, no condition. -/
namespace Go.Proofs.Ytmjanmffnblcoaa
open Go.Sort

theorem pickR_mem {l : List Rl} {now budget : Int} {hs : List Ar} {a : Ar} {k : Nat} (h : pickR l now budget hs = some (a, k)) : a ∈ hs ∧ goB l now budget hs k a = true ∧ (k = 1 ∨ k = 2 ∨ k = 3) := by
  have key : ∀ {j : Nat} {b : Ar}, bestF (goB l now budget hs j) hs none = some b → b ∈ hs ∧ goB l now budget hs j b = true := fun {j b} hb => by
    have := best_min (P := goB l now budget hs j) hs none (fun x hx => by cases hx)
    rw [hb] at this
    exact ⟨this.1.resolve_right (fun e => by cases e), this.2.1⟩
  unfold pickR at h
  split at h
  · rename_i b hb; cases h; exact ⟨(key hb).1, (key hb).2, .inl rfl⟩
  · split at h
    · rename_i b hb; cases h; exact ⟨(key hb).1, (key hb).2, .inr (.inl rfl)⟩
    · split at h
      · rename_i b hb; cases h; exact ⟨(key hb).1, (key hb).2, .inr (.inr rfl)⟩
      · cases h
theorem pickR_none {l : List Rl} {now budget : Int} {hs : List Ar} (h : pickR l now budget hs = none) {k : Nat} (hk : k = 1 ∨ k = 2 ∨ k = 3) {a : Ar} (ha : a ∈ hs) : goB l now budget hs k a = false := by
  have key : ∀ {j : Nat}, bestF (goB l now budget hs j) hs none = none → goB l now budget hs j a = false := fun {j} hb => by
    have := best_min (P := goB l now budget hs j) hs none (fun x hx => by cases hx)
    rw [hb] at this
    exact this.2 a ha
  unfold pickR at h
  split at h
  · cases h
  · rename_i h1
    split at h
    · cases h
    · rename_i h2
      split at h
      · cases h
      · rename_i h3
        rcases hk with rfl | rfl | rfl
        · exact key h1
        · exact key h2
        · exact key h3
/-- The plan and what stays. -/
theorem refp_stays {l : List Rl} {now budget : Int} : ∀ (n : Nat) (hs : List Ar), ArsOK hs → (refP l now budget n hs).2 = hs.filter (fun a => !decide (a.id ∈ (refP l now budget n hs).1.map (·.1))) ∧ (refP l now budget n hs).1.length + (refP l now budget n hs).2.length = hs.length
  | 0, hs, _ => ⟨(List.filter_eq_self.2 (fun _ _ => by simp [refP])).symm, by simp [refP]⟩
  | n + 1, hs, hok => by
    cases hk : pickR l now budget hs with
    | none =>
      have e : refP l now budget (n + 1) hs = ([], hs) := by simp only [refP, hk]
      rw [e]
      exact ⟨(List.filter_eq_self.2 (fun _ _ => by simp)).symm, by simp⟩
    | some ak =>
      obtain ⟨a, k⟩ := ak
      obtain ⟨h1, h2⟩ := refp_stays (l := l) (now := now) (budget := budget) n (without hs a.id) (hok.sub (without_sub _ _))
      have ha := (pickR_mem hk).1
      have hl := without_len hok ha
      have e : refP l now budget (n + 1) hs = ((a.id, k) :: (refP l now budget n (without hs a.id)).1, (refP l now budget n (without hs a.id)).2) := by simp only [refP, hk]
      rw [e]
      refine ⟨?_, by simp only [List.length_cons]; omega⟩
      simp only
      rw [h1]
      unfold without
      rw [List.filter_filter]
      refine List.filter_congr fun x _ => ?_
      simp only [List.map_cons, List.mem_cons]
      by_cases e : x.id = a.id
      · simp [e]
      · simp [e]
theorem refp_end {l : List Rl} {now budget : Int} : ∀ (n : Nat) (hs : List Ar), ArsOK hs → hs.length ≤ n → pickR l now budget (refP l now budget n hs).2 = none
  | 0, hs, _, hl => by
    have : hs = [] := List.eq_nil_of_length_eq_zero (by omega)
    subst this
    rfl
  | n + 1, hs, hok, hl => by
    simp only [refP]
    cases hk : pickR l now budget hs with
    | none => exact hk
    | some ak =>
      obtain ⟨a, k⟩ := ak
      have := without_len hok (pickR_mem hk).1
      exact refp_end n (without hs a.id) (hok.sub (without_sub _ _)) (by omega)
/-- What goes may go. -/
theorem refp_safe {l : List Rl} {now budget : Int} (hl : ∀ r ∈ l, 0 ≤ r.lo ∧ r.lo ≤ r.hi ∧ r.hi ≤ 36500) : ∀ (n : Nat) (hs : List Ar), ArsOK hs → ∀ a ∈ hs, a.id ∈ (refP l now budget n hs).1.map (·.1) →
    permK a.ct = false ∧ (a.wd = true ∨ mayB l now a = true) ∧ ∀ h ∈ a.holds, hereB (refP l now budget n hs).2 h = false
  | 0, hs, _, a, _, h => by simp [refP] at h
  | n + 1, hs, hok, a, ha, h => by
    simp only [refP] at h ⊢
    cases hk : pickR l now budget hs with
    | none => rw [hk] at h; simp at h
    | some bk =>
      obtain ⟨b, k⟩ := bk
      rw [hk] at h
      simp only [List.map_cons, List.mem_cons] at h
      have hsub := (refp_stays (l := l) (now := now) (budget := budget) n (without hs b.id) (hok.sub (without_sub _ _))).1
      by_cases e : a.id = b.id
      · obtain ⟨hb, hgo, hk3⟩ := pickR_mem hk
        have : a = b := nodup_inj hok.nd ha hb e
        subst this
        unfold goB protB at hgo
        simp only [Bool.and_eq_true, Bool.not_eq_true', Bool.or_eq_false_iff] at hgo
        obtain ⟨h1, h2, h3⟩ := hgo
        refine ⟨?_, ?_, fun i hi => ?_⟩
        · unfold fixB at h2
          simp only [Bool.or_eq_false_iff] at h2
          exact h2.1
        · have hd := daysR_bd hl a.gs
          rcases hk3 with rfl | rfl | rfl
          · unfold reasB at h1; simp at h1; exact .inl h1.1
          · unfold reasB overB at h1; simp at h1; refine .inr ?_; unfold mayB; simp; omega
          · unfold reasB at h1; simp at h1; exact .inr h1.2
        · have hno := List.any_eq_false.1 h3 i hi
          refine here_sub (fun x hx => ?_) (by simpa using hno)
          simp only at hx
          rw [hsub] at hx
          exact (List.mem_filter.1 (List.mem_filter.1 hx).1).1
      · have ha' : a ∈ without hs b.id := List.mem_filter.2 ⟨ha, by simp [e]⟩
        have h : a.id ∈ (refP l now budget n (without hs b.id)).1.map (·.1) := h.resolve_left e
        exact refp_safe hl n (without hs b.id) (hok.sub (without_sub _ _)) a ha' h
/-! ### The order -/
theorem best_perm {P : Ar → Bool} {h h' : List Ar} (hp : h.Perm h') (hok : ArsOK h) : bestF P h none = bestF P h' none := by
  have b1 := best_min (P := P) h none (fun x hx => by cases hx)
  have b2 := best_min (P := P) h' none (fun x hx => by cases hx)
  cases e1 : bestF P h none with
  | none =>
    rw [e1] at b1
    cases e2 : bestF P h' none with
    | none => rfl
    | some a =>
      rw [e2] at b2
      have ha := b2.1.resolve_right (fun e => by cases e)
      have := b1.2 a (hp.mem_iff.2 ha)
      rw [b2.2.1] at this
      cases this
  | some a =>
    rw [e1] at b1
    have ha := b1.1.resolve_right (fun e => by cases e)
    cases e2 : bestF P h' none with
    | none =>
      rw [e2] at b2
      have := b2.2 a (hp.mem_iff.1 ha)
      rw [b1.2.1] at this
      cases this
    | some b =>
      rw [e2] at b2
      have hb := hp.mem_iff.2 (b2.1.resolve_right (fun e => by cases e))
      have c1 := b1.2.2.1 b hb b2.2.1
      have c2 := b2.2.2.1 a (hp.mem_iff.1 ha) b1.2.1
      have := cfK_ord.anti (keyA a) (keyA b)
      rw [hok.inj ha hb (cfK_zero (by omega))]
theorem pickR_perm {l : List Rl} {now budget : Int} {h h' : List Ar} (hp : h.Perm h') (hok : ArsOK h) : pickR l now budget h = pickR l now budget h' := by
  unfold pickR
  rw [best_perm hp hok, best_perm hp hok, best_perm hp hok, go_perm hp 1, go_perm hp 2, go_perm hp 3]
theorem ref_perm {l : List Rl} {now budget : Int} : ∀ (n : Nat) (h h' : List Ar), h.Perm h' → ArsOK h → (refP l now budget n h).1 = (refP l now budget n h').1
  | 0, _, _, _, _ => rfl
  | n + 1, h, h', hp, hok => by
    simp only [refP, pickR_perm hp hok]
    cases hk : pickR l now budget h' with
    | none => rfl
    | some ak =>
      obtain ⟨a, k⟩ := ak
      simp only [ref_perm n (without h a.id) (without h' a.id) (hp.filter _) (hok.sub (without_sub _ _))]
/-! ### Errors -/
theorem errA_of : ∀ {l : List Ar} {seen : List (List Int)}, (∀ a ∈ l, arBad a = false) → (seen ++ l.map (·.id)).Nodup → errA seen l = 0
  | [], _, _, _ => rfl
  | a :: l, seen, h1, h2 => by
    have e : errA seen (a :: l) = if arBad a = true then 2 else if a.id ∈ seen then 7 else errA (seen ++ [a.id]) l := rfl
    rw [e, if_neg (by rw [h1 a (by simp)]; decide), if_neg, errA_of (fun x hx => h1 x (by simp [hx])) (by simpa using h2)]
    intro hm
    rw [List.map_cons, List.nodup_append] at h2
    exact h2.2.2 _ hm _ (by simp) rfl
theorem planErr_sub {L : List Rl} {l l' : List Ar} {now budget : Int} (h : planErr L l now budget = 0) (hs : l'.Sublist l) : planErr L l' now budget = 0 := by
  unfold planErr at h ⊢
  split at h
  · rename_i h1; exact absurd h h1
  · rename_i h1
    rw [if_neg h1]
    split at h
    · cases h
    · rename_i h2
      rw [if_neg h2]
      obtain ⟨a, b⟩ := errA_ok .nil h
      exact errA_of (fun x hx => a x (hs.subset hx)) (by
        rw [List.nil_append] at b ⊢
        exact b.sublist (hs.map _))
theorem planErr_perm {L : List Rl} {l l' : List Ar} {now budget : Int} (h : planErr L l now budget = 0) (hs : l.Perm l') : planErr L l' now budget = 0 := by
  unfold planErr at h ⊢
  split at h
  · rename_i h1; exact absurd h h1
  · rename_i h1
    rw [if_neg h1]
    split at h
    · cases h
    · rename_i h2
      rw [if_neg h2]
      obtain ⟨a, b⟩ := errA_ok .nil h
      exact errA_of (fun x hx => a x (hs.mem_iff.2 hx)) (by
        rw [List.nil_append] at b ⊢
        exact (hs.map _).nodup_iff.1 b)
theorem planErr_parts {L : List Rl} {l : List Ar} {now budget : Int} (h : planErr L l now budget = 0) : chkR L = 0 ∧ (0 ≤ now ∧ now ≤ 105190559) ∧ 0 ≤ budget ∧ (∀ a ∈ l, arBad a = false) ∧ (l.map (·.id)).Nodup := by
  unfold planErr at h
  split at h
  · rename_i h1; exact absurd h h1
  · rename_i h1
    split at h
    · cases h
    · rename_i h2
      obtain ⟨a, b⟩ := errA_ok .nil h
      simp only [Bool.or_eq_true, not_or, Bool.not_eq_true', decide_eq_true_eq] at h2
      unfold minB at h2
      simp only [Bool.and_eq_false_iff, not_or, decide_eq_false_iff_not, Classical.not_not] at h2
      exact ⟨by simpa using h1, by omega, by omega, a, by simpa using b⟩

end Go.Proofs.Ytmjanmffnblcoaa

/- The formulas of functions by the symbolic evaluator, and that each gives the call's contract. Written by a program (gen.py). No condition. -/
namespace Go.Proofs.Ytmjanmffnblcoaa
set_option maxRecDepth 100000
set_option linter.unusedVariables false

def VC_lorder (p : Option Addr) (n : Nat) (c : Nat) (q : Option Addr) (k : Nat) (d : Nat) (now : Int) (budget : Int) (p3 : Option Addr) (n3 : Nat) (c3 : Nat) (w : World) (R : Ending → World → Prop) : Prop :=
 ∀ (n_1 : Nat) (W : World),
 Loc w.heap.size
 [Blk.mk n_1 25 [Value.slice p n c, Value.slice q k d, Value.int IntKind.i64 now, Value.int IntKind.i64 budget] 2] w
 W →
 CallsS Try.prog 10 #[] W fun (e : Ending) (w' : World) =>
 ∃ (x : Bool),
 e = Ending.returned (Value.bool x) ∧
 KeptL [n_1] W w' ∧
 ∃ (p_1 : Option Addr),
 ∃ (n_2 : Nat),
 ∃ (c_1 : Nat),
 gimp (!!x) (w'.cell? (Addr.mk n_1 0 none) = some (Value.slice p_1 n_2 c_1)) ∧
 ∃ (p_2 : Option Addr),
 ∃ (n_3 : Nat),
 ∃ (c_2 : Nat),
 gimp (!!x) (w'.cell? (Addr.mk n_1 (0 + 1) none) = some (Value.slice p_2 n_3 c_2)) ∧
 bsp (!!x)
 (CallsS Try.prog 11 #[Value.slice p_1 n_2 c_1, Value.slice p_2 n_3 c_2] w'
 fun (e : Ending) (w'_1 : World) =>
 ∃ (x : Bool),
 e = Ending.returned (Value.bool x) ∧
 KeptL [n_1] w' w'_1 ∧
 bsp (false || !x || decide ((↑n3 : Int) > 40))
 (CallsS Try.prog 10 #[] w'_1 fun (e : Ending) (w' : World) =>
 ∃ (x : Bool),
 e = Ending.returned (Value.bool x) ∧ KeptL [n_1] w'_1 w' ∧ R (Ending.returned (Value.bool x)) w')
 (∀ (W : World),
 Loc w.heap.size
 [Blk.mk n_1 25
 [Value.slice p n c, Value.slice q k d, Value.int IntKind.i64 now, Value.int IntKind.i64 budget]
 0]
 w'_1 W →
 ∃ (S : World → Prop),
 S W ∧
 ∃ (p_3 : Option Addr),
 ∃ (n_4 : Nat),
 ∃ (c_3 : Nat),
 (∀ (w' : World), S w' → w'.cell? (Addr.mk n_1 0 none) = some (Value.slice p_3 n_4 c_3)) ∧
 ∃ (p_4 : Option Addr),
 ∃ (n_5 : Nat),
 ∃ (c_4 : Nat),
 (∀ (w' : World),
 S w' → w'.cell? (Addr.mk n_1 (0 + 1) none) = some (Value.slice p_4 n_5 c_4)) ∧
 CallsS Try.prog 12 #[Value.slice p_3 n_4 c_3] W fun (e : Ending) (w' : World) =>
 ∃ (p_5 : Option Addr),
 ∃ (n_6 : Nat),
 ∃ (c_5 : Nat),
 e = Ending.returned (Value.slice p_5 n_6 c_5) ∧
 S w' ∧
 CallsS Try.prog 13 #[Value.slice p_4 n_5 c_4] w' fun (e : Ending) (w' : World) =>
 ∃ (p_6 : Option Addr),
 ∃ (n_7 : Nat),
 ∃ (c_6 : Nat),
 e = Ending.returned (Value.slice p_6 n_7 c_6) ∧
 KeptL [n_1] W w' ∧
 CallsS Try.prog 14
 #[Value.slice p_5 n_6 c_5, Value.slice p_6 n_7 c_6,
 Value.int IntKind.i64 now, Value.int IntKind.i64 budget]
 w' fun (e : Ending) (w'_2 : World) =>
 ∃ (p_7 : Option Addr),
 ∃ (n_8 : Nat),
 ∃ (c_7 : Nat),
 ∃ (x : Int),
 e =
 Ending.returned
 (Value.tuple #[Value.slice p_7 n_8 c_7, Value.int IntKind.i64 x]) ∧
 KeptL [n_1] w' w'_2 ∧
 bsp (x != 0) (R (Ending.returned (Value.bool true)) w'_2)
 (∃ (I : List Value → World → Prop),
 ∃ (m : List Value → World → Nat),
 I [Value.int IntKind.i64 0] w'_2 ∧
 ∀ (x : Int) (w' : World),
 I [Value.int IntKind.i64 x] w' →
 Loc w.heap.size
 [Blk.mk n_1 25
 [Value.slice p n c, Value.slice q k d,
 Value.int IntKind.i64 now, Value.int IntKind.i64 budget]
 0]
 w' w' →
 bsp (decide (x < (↑n3 : Int)) && decide ((↑n_7 : Int) > 0))
 ((IntKind.i64 = IntKind.i64 ∧ (↑n_7 : Int) ≠ 0) ∧
 nn true p3 fun (b o : Nat) =>
 (0 ≤ x ∧ x < (↑n3 : Int)) ∧
 ∃ (x_1 : Int),
 (∀ (W : World),
 Loc w.heap.size
 [Blk.mk n_1 25
 [Value.slice p n c, Value.slice q k d,
 Value.int IntKind.i64 now,
 Value.int IntKind.i64 budget]
 0]
 w' W →
 W.cell? (Addr.mk b (o + x.toNat) none) =
 some (Value.int IntKind.u8 x_1)) ∧
 (IntKind.i64 = IntKind.i64 ∧ (↑n_7 : Int) ≠ 0) ∧
 ∀ (W : World),
 Loc w.heap.size
 [Blk.mk n_1 25
 [Value.slice p n c, Value.slice q k d,
 Value.int IntKind.i64 now,
 Value.int IntKind.i64 budget]
 0]
 w' W →
 ∃ (S : World → Prop),
 S W ∧
 nn true p_6 fun (b o : Nat) =>
 (0 ≤ (IntKind.i64.wrap x_1).tmod (↑n_7 : Int) ∧
 (IntKind.i64.wrap x_1).tmod (↑n_7 : Int) <
 (↑n_7 : Int)) ∧
 ∃ (f : Nat → Int),
 ∃ (x_2 : Int),
 ∃ (x_3 : Int),
 ∃ (p : Option Addr),
 ∃ (n : Nat),
 ∃ (c : Nat),
 ∃ (x_4 : Int),
 ∃ (x_5 : Int),
 ∃ (p_8 : Option Addr),
 ∃ (n_9 : Nat),
 ∃ (c_8 : Nat),
 ∃ (x_6 : Bool),
 (∀ (w' : World),
 S w' →
 AtL w' b
 (o +
 ((IntKind.i64.wrap x_1).tmod
 (↑n_7 : Int)).toNat *
 39)
 (arrI IntKind.u8 f 32 0 ++ [Value.int IntKind.i64 x_2,
 Value.int IntKind.i64 x_3,
 Value.slice p n c,
 Value.int IntKind.i64 x_4,
 Value.int IntKind.i64 x_5,
 Value.slice p_8 n_9 c_8,
 Value.bool x_6])) ∧
 nn true p_6 fun (b o : Nat) =>
 (0 ≤ x.tmod (↑n_7 : Int) ∧
 x.tmod (↑n_7 : Int) <
 (↑n_7 : Int)) ∧
 ∃ (f_1 : Nat → Int),
 ∃ (x_7 : Int),
 ∃ (x_8 : Int),
 ∃ (p_9 : Option Addr),
 ∃ (n_10 : Nat),
 ∃ (c_9 : Nat),
 ∃ (x_9 : Int),
 ∃ (x_10 : Int),
 ∃ (p_10 : Option Addr),
 ∃ (n_11 : Nat),
 ∃ (c_10 : Nat),
 ∃ (x_11 : Bool),
 (∀ (w' : World),
 S w' →
 AtL w' b
 (o +
 (x.tmod
 (↑n_7 :
 Int)).toNat *
 39)
 (arrI IntKind.u8 f_1 32 0 ++ [Value.int
 IntKind.i64 x_7,
 Value.int
 IntKind.i64 x_8,
 Value.slice p_9
 n_10 c_9,
 Value.int
 IntKind.i64 x_9,
 Value.int
 IntKind.i64
 x_10,
 Value.slice p_10
 n_11 c_10,
 Value.bool
 x_11])) ∧
 nn true p_6
 fun (b o : Nat) =>
 (0 ≤
 x.tmod
 (↑n_7 : Int) ∧
 x.tmod
 (↑n_7 : Int) <
 (↑n_7 : Int)) ∧
 WrL W b
 (o +
 (x.tmod
 (↑n_7 :
 Int)).toNat *
 39)
 39 ∧
 ∀ (w1 : World),
 PutB W b
 (o +
 (x.tmod
 (↑n_7 :
 Int)).toNat *
 39)
 (arrI IntKind.u8 f 32 0 ++ [Value.int
 IntKind.i64
 x_2,
 Value.int
 IntKind.i64
 x_3,
 Value.slice p
 n c,
 Value.int
 IntKind.i64
 x_4,
 Value.int
 IntKind.i64
 x_5,
 Value.slice
 p_8 n_9 c_8,
 Value.bool
 x_6])
 w1 →
 nn true p_6
 fun
 (b o : Nat) =>
 (0 ≤
 (IntKind.i64.wrap
 x_1).tmod
 (↑n_7 :
 Int) ∧
 (IntKind.i64.wrap
 x_1).tmod
 (↑n_7 :
 Int) <
 (↑n_7 :
 Int)) ∧
 WrL w1 b
 (o +
 ((IntKind.i64.wrap
 x_1).tmod
 (↑n_7 :
 Int)).toNat *
 39)
 39 ∧
 ∀
 (w1_1 :
 World),
 PutB w1 b
 (o +
 ((IntKind.i64.wrap
 x_1).tmod
 (↑n_7 :
 Int)).toNat *
 39)
 (arrI IntKind.u8 f_1 32 0 ++ [Value.int
 IntKind.i64
 x_7,
 Value.int
 IntKind.i64
 x_8,
 Value.slice
 p_9 n_10
 c_9,
 Value.int
 IntKind.i64
 x_9,
 Value.int
 IntKind.i64
 x_10,
 Value.slice
 p_10
 n_11
 c_10,
 Value.bool
 x_11])
 w1_1 →
 KeptL [n_1]
 W w1_1 ∧
 I
 [Value.int
 IntKind.i64
 (IntKind.i64.wrap
 (x +
 1))]
 w1_1 ∧
 m
 [Value.int
 IntKind.i64
 (IntKind.i64.wrap
 (x +
 1))]
 w1_1 <
 m
 [Value.int
 IntKind.i64
 x]
 w')
 (CallsS Try.prog 14
 #[Value.slice p_5 n_6 c_5, Value.slice p_6 n_7 c_6,
 Value.int IntKind.i64 now, Value.int IntKind.i64 budget]
 w' fun (e : Ending) (w'_3 : World) =>
 ∃ (p_8 : Option Addr),
 ∃ (n_9 : Nat),
 ∃ (c_8 : Nat),
 ∃ (x : Int),
 e =
 Ending.returned
 (Value.tuple
 #[Value.slice p_8 n_9 c_8,
 Value.int IntKind.i64 x]) ∧
 KeptL [n_1] w' w'_3 ∧
 bsp (x != 0 || (↑n_8 : Int) != (↑n_9 : Int))
 (R (Ending.returned (Value.bool false)) w'_3)
 (∃ (I : List Value → World → Prop),
 ∃ (m : List Value → World → Nat),
 I [Value.int IntKind.i64 0] w'_3 ∧
 ∀ (x : Int) (w' : World),
 I [Value.int IntKind.i64 x] w' →
 Loc w.heap.size
 [Blk.mk n_1 25
 [Value.slice p n c, Value.slice q k d,
 Value.int IntKind.i64 now,
 Value.int IntKind.i64 budget]
 0]
 w' w' →
 bsp (decide (x < (↑n_8 : Int)))
 (nn true p_7 fun (b o : Nat) =>
 (0 ≤ x ∧ x < (↑n_8 : Int)) ∧
 ∃ (f : Nat → Int),
 ∃ (x_1 : Int),
 (∀ (W : World),
 Loc w.heap.size
 [Blk.mk n_1 25
 [Value.slice p n c,
 Value.slice q k d,
 Value.int IntKind.i64 now,
 Value.int IntKind.i64 budget]
 0]
 w' W →
 AtL W b (o + x.toNat * 33)
 (arrI IntKind.u8 f 32 0 ++ [Value.int IntKind.i64 x_1])) ∧
 nn true p_8 fun (b o : Nat) =>
 (0 ≤ x ∧ x < (↑n_9 : Int)) ∧
 ∃ (f_1 : Nat → Int),
 ∃ (x_2 : Int),
 (∀ (W : World),
 Loc w.heap.size
 [Blk.mk n_1 25
 [Value.slice p n c,
 Value.slice q k d,
 Value.int IntKind.i64 now,
 Value.int IntKind.i64 budget]
 0]
 w' W →
 AtL W b (o + x.toNat * 33)
 (arrI IntKind.u8 f_1 32 0 ++ [Value.int IntKind.i64 x_2])) ∧
 ∃ (r : Bool),
 EqP Try.prog 44
 (Value.agg
 (arrI IntKind.u8 f 32 0 ++ [Value.int IntKind.i64 x_1]).toArray)
 (Value.agg
 (arrI IntKind.u8 f_1 32 0 ++ [Value.int IntKind.i64 x_2]).toArray)
 r ∧
 bsp (!r)
 (∀ (W : World),
 Loc w.heap.size
 [Blk.mk n_1 25
 [Value.slice p n c,
 Value.slice q k d,
 Value.int IntKind.i64 now,
 Value.int IntKind.i64
 budget]
 0]
 w' W →
 R
 (Ending.returned
 (Value.bool false))
 W)
 (∀ (W : World),
 Loc w.heap.size
 [Blk.mk n_1 25
 [Value.slice p n c,
 Value.slice q k d,
 Value.int IntKind.i64 now,
 Value.int IntKind.i64
 budget]
 0]
 w' W →
 I
 [Value.int IntKind.i64
 (IntKind.i64.wrap (x + 1))]
 W ∧
 m
 [Value.int IntKind.i64
 (IntKind.i64.wrap
 (x + 1))]
 W <
 m [Value.int IntKind.i64 x]
 w'))
 (R (Ending.returned (Value.bool true))
 w'))))))
 (KeptL [n_1] w' w' ∧
 CallsS Try.prog 10 #[] w' fun (e : Ending) (w'_1 : World) =>
 ∃ (x : Bool),
 e = Ending.returned (Value.bool x) ∧ KeptL [n_1] w' w'_1 ∧ R (Ending.returned (Value.bool x)) w'_1)
theorem vc_lorder (p : Option Addr) (n : Nat) (c : Nat) (q : Option Addr) (k : Nat) (d : Nat) (now : Int) (budget : Int) (p3 : Option Addr) (n3 : Nat) (c3 : Nat) (w : World) (R : Ending → World → Prop) (h : VC_lorder p n c q k d now budget p3 n3 c3 w R) : Calls Try.prog 3 ([Value.agg
    #[Value.slice p n c, Value.slice q k d, Value.int IntKind.i64 now, Value.int IntKind.i64 budget],
  Value.slice p3 n3 c3] : List Value).toArray w R := by
  have e : execR2 { P := Try.prog, loops := [(8, [(9, Ck.int IntKind.i64)]), (16, [(14, Ck.int IntKind.i64)])], pur := pur2, tails := [(3, 2), (11, 13)], joins := [], boxes := [] } Try.f3.results.toList R (Try.f3.body.getD .skip) (initF [Value.agg
    #[Value.slice p n c, Value.slice q k d, Value.int IntKind.i64 now, Value.int IntKind.i64 budget],
  Value.slice p3 n3
    c3] (Try.f3.ntmps - ([Value.agg
    #[Value.slice p n c, Value.slice q k d, Value.int IntKind.i64 now, Value.int IntKind.i64 budget],
  Value.slice p3 n3 c3] : List Value).length)) w = VC_lorder p n c q k d now budget p3 n3 c3 w R := by kernel_rfl
  have hb : Try.f3.body = some (Try.f3.body.getD .skip) := by kernel_rfl
  exact calls_of_exec2' (P := Try.prog) (fn := Try.f3) (c := Try.f3.body.getD .skip) (args := [Value.agg
    #[Value.slice p n c, Value.slice q k d, Value.int IntKind.i64 now, Value.int IntKind.i64 budget],
  Value.slice p3 n3 c3]) (w := w) (R := R) pur2_ok Try.func3 hb e h

def VC_lagain (p : Option Addr) (n : Nat) (c : Nat) (q : Option Addr) (k : Nat) (d : Nat) (now : Int) (budget : Int) (w : World) (R : Ending → World → Prop) : Prop :=
 ∀ (n_1 : Nat) (W : World),
 Loc w.heap.size
 [Blk.mk n_1 25 [Value.slice p n c, Value.slice q k d, Value.int IntKind.i64 now, Value.int IntKind.i64 budget] 2] w
 W →
 CallsS Try.prog 10 #[] W fun (e : Ending) (w' : World) =>
 ∃ (x : Bool),
 e = Ending.returned (Value.bool x) ∧
 KeptL [n_1] W w' ∧
 ∃ (p_1 : Option Addr),
 ∃ (n_2 : Nat),
 ∃ (c_1 : Nat),
 gimp (!!x) (w'.cell? (Addr.mk n_1 0 none) = some (Value.slice p_1 n_2 c_1)) ∧
 ∃ (p_2 : Option Addr),
 ∃ (n_3 : Nat),
 ∃ (c_2 : Nat),
 gimp (!!x) (w'.cell? (Addr.mk n_1 (0 + 1) none) = some (Value.slice p_2 n_3 c_2)) ∧
 bsp (!!x)
 (CallsS Try.prog 11 #[Value.slice p_1 n_2 c_1, Value.slice p_2 n_3 c_2] w'
 fun (e : Ending) (w'_1 : World) =>
 ∃ (x : Bool),
 e = Ending.returned (Value.bool x) ∧
 KeptL [n_1] w' w'_1 ∧
 bsp (false || !x)
 (CallsS Try.prog 10 #[] w'_1 fun (e : Ending) (w' : World) =>
 ∃ (x : Bool),
 e = Ending.returned (Value.bool x) ∧ KeptL [n_1] w'_1 w' ∧ R (Ending.returned (Value.bool x)) w')
 (∀ (W : World),
 Loc w.heap.size
 [Blk.mk n_1 25
 [Value.slice p n c, Value.slice q k d, Value.int IntKind.i64 now, Value.int IntKind.i64 budget]
 0]
 w'_1 W →
 ∃ (S : World → Prop),
 S W ∧
 ∃ (p_3 : Option Addr),
 ∃ (n_4 : Nat),
 ∃ (c_3 : Nat),
 (∀ (w' : World), S w' → w'.cell? (Addr.mk n_1 0 none) = some (Value.slice p_3 n_4 c_3)) ∧
 ∃ (p_4 : Option Addr),
 ∃ (n_5 : Nat),
 ∃ (c_4 : Nat),
 (∀ (w' : World),
 S w' → w'.cell? (Addr.mk n_1 (0 + 1) none) = some (Value.slice p_4 n_5 c_4)) ∧
 CallsS Try.prog 12 #[Value.slice p_3 n_4 c_3] W fun (e : Ending) (w' : World) =>
 ∃ (p_5 : Option Addr),
 ∃ (n_6 : Nat),
 ∃ (c_5 : Nat),
 e = Ending.returned (Value.slice p_5 n_6 c_5) ∧
 S w' ∧
 CallsS Try.prog 13 #[Value.slice p_4 n_5 c_4] w' fun (e : Ending) (w' : World) =>
 ∃ (p_6 : Option Addr),
 ∃ (n_7 : Nat),
 ∃ (c_6 : Nat),
 e = Ending.returned (Value.slice p_6 n_7 c_6) ∧
 KeptL [n_1] W w' ∧
 CallsS Try.prog 14
 #[Value.slice p_5 n_6 c_5, Value.slice p_6 n_7 c_6,
 Value.int IntKind.i64 now, Value.int IntKind.i64 budget]
 w' fun (e : Ending) (w'_2 : World) =>
 ∃ (p_7 : Option Addr),
 ∃ (n_8 : Nat),
 ∃ (c_7 : Nat),
 ∃ (x : Int),
 e =
 Ending.returned
 (Value.tuple #[Value.slice p_7 n_8 c_7, Value.int IntKind.i64 x]) ∧
 KeptL [n_1] w' w'_2 ∧
 bsp (x != 0) (R (Ending.returned (Value.bool true)) w'_2)
 (∀ (W : World),
 Loc w.heap.size
 [Blk.mk n_1 25
 [Value.slice p n c, Value.slice q k d,
 Value.int IntKind.i64 now, Value.int IntKind.i64 budget]
 0]
 w'_2 W →
 ∃ (S : World → Prop),
 S W ∧
 ∃ (x : Int),
 (∀ (w' : World),
 S w' →
 w'.cell? (Addr.mk n_1 (0 + 2) none) =
 some (Value.int IntKind.i64 x)) ∧
 ∃ (x_1 : Int),
 (∀ (w' : World),
 S w' →
 w'.cell? (Addr.mk n_1 (0 + 3) none) =
 some (Value.int IntKind.i64 x_1)) ∧
 CallsS Try.prog 25
 #[Value.slice p_6 n_7 c_6, Value.slice p_7 n_8 c_7] W
 fun (e : Ending) (w' : World) =>
 ∃ (p : Option Addr),
 ∃ (n : Nat),
 ∃ (c : Nat),
 e = Ending.returned (Value.slice p n c) ∧
 S w' ∧
 CallsS Try.prog 14
 #[Value.slice p_5 n_6 c_5, Value.slice p n c,
 Value.int IntKind.i64 x, Value.int IntKind.i64 x_1]
 w' fun (e : Ending) (w' : World) =>
 ∃ (p : Option Addr),
 ∃ (n : Nat),
 ∃ (c : Nat),
 ∃ (x : Int),
 e =
 Ending.returned
 (Value.tuple
 #[Value.slice p n c,
 Value.int IntKind.i64 x]) ∧
 KeptL [n_1] W w' ∧
 R
 (Ending.returned
 (Value.bool (x == 0 && (↑n : Int) == 0)))
 w')))
 (KeptL [n_1] w' w' ∧
 CallsS Try.prog 10 #[] w' fun (e : Ending) (w'_1 : World) =>
 ∃ (x : Bool),
 e = Ending.returned (Value.bool x) ∧ KeptL [n_1] w' w'_1 ∧ R (Ending.returned (Value.bool x)) w'_1)
theorem vc_lagain (p : Option Addr) (n : Nat) (c : Nat) (q : Option Addr) (k : Nat) (d : Nat) (now : Int) (budget : Int) (w : World) (R : Ending → World → Prop) (h : VC_lagain p n c q k d now budget w R) : Calls Try.prog 9 ([Value.agg
    #[Value.slice p n c, Value.slice q k d, Value.int IntKind.i64 now,
      Value.int IntKind.i64 budget]] : List Value).toArray w R := by
  have e : execR2 { P := Try.prog, loops := [], pur := pur2, tails := [(3, 2), (7, 3)], joins := [], boxes := [] } Try.f9.results.toList R (Try.f9.body.getD .skip) (initF [Value.agg
    #[Value.slice p n c, Value.slice q k d, Value.int IntKind.i64 now,
      Value.int IntKind.i64
        budget]] (Try.f9.ntmps - ([Value.agg
    #[Value.slice p n c, Value.slice q k d, Value.int IntKind.i64 now,
      Value.int IntKind.i64 budget]] : List Value).length)) w = VC_lagain p n c q k d now budget w R := by kernel_rfl
  have hb : Try.f9.body = some (Try.f9.body.getD .skip) := by kernel_rfl
  exact calls_of_exec2' (P := Try.prog) (fn := Try.f9) (c := Try.f9.body.getD .skip) (args := [Value.agg
    #[Value.slice p n c, Value.slice q k d, Value.int IntKind.i64 now,
      Value.int IntKind.i64 budget]]) (w := w) (R := R) pur2_ok Try.func9 hb e h

end Go.Proofs.Ytmjanmffnblcoaa
