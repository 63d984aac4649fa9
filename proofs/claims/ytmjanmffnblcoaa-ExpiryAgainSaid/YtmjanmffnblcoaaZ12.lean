/- The formulas of functions by the symbolic evaluator, and that each gives the call's contract. Written by a program (gen.py). No condition. -/
import Derived.Test.YtmjanmffnblcoaaProg
import Derived.Test.YtmjanmffnblcoaaZ02
import Derived.Test.YtmjanmffnblcoaaZ08
import Derived.Test.YtmjanmffnblcoaaZ04
import Derived.KernelRfl
import Derived.Test.YtmjanmffnblcoaaZ10
import Derived.Test.YtmjanmffnblcoaaZ11
namespace Go.Proofs.Ytmjanmffnblcoaa
set_option maxRecDepth 100000
set_option linter.unusedVariables false

def VC_xrule (s : ByteArray) (lo : Int) (hi : Int) (w : World) (R : Ending → World → Prop) : Prop :=
 ∀ (n : Nat) (W : World),
 Loc w.heap.size [Blk.mk n 69 [Value.string s, Value.int IntKind.i64 lo, Value.int IntKind.i64 hi] 2] w W →
 CallsS Try.prog 36 #[Value.string s] W fun (e : Ending) (w' : World) =>
 ∃ (x : ByteArray),
 ∃ (p : Option Addr),
 ∃ (n_1 : Nat),
 ∃ (c : Nat),
 ∃ (x_1 : Int),
 ∃ (x_2 : Int),
 e =
 Ending.returned
 (Value.tuple
 #[Value.agg #[Value.string x, Value.slice p n_1 c], Value.int IntKind.i64 x_1,
 Value.int IntKind.i64 x_2]) ∧
 KeptL [n] W w' ∧
 ∀ (n_2 : Nat),
 bsp (x_2 != 0)
 (∀ (W : World),
 Loc w.heap.size
 [Blk.mk n_2 86 [Value.string x, Value.slice p n_1 c] (wrM 2),
 Blk.mk n 69 [Value.string s, Value.int IntKind.i64 lo, Value.int IntKind.i64 hi] 0]
 w' W →
 R (Ending.returned (Value.int IntKind.i64 3)) W)
 (∃ (x_3 : Int),
 gimp (!decide (lo < 0))
 (∀ (W : World),
 Loc w.heap.size
 [Blk.mk n_2 86 [Value.string x, Value.slice p n_1 c] (wrM 2),
 Blk.mk n 69 [Value.string s, Value.int IntKind.i64 lo, Value.int IntKind.i64 hi] 0]
 w' W →
 W.cell? (Addr.mk n (0 + 1) none) = some (Value.int IntKind.i64 x_3)) ∧
 ∃ (x_4 : Int),
 gimp (!decide (lo < 0))
 (∀ (W : World),
 Loc w.heap.size
 [Blk.mk n_2 86 [Value.string x, Value.slice p n_1 c] (wrM 2),
 Blk.mk n 69 [Value.string s, Value.int IntKind.i64 lo, Value.int IntKind.i64 hi] 0]
 w' W →
 W.cell? (Addr.mk n (0 + 2) none) = some (Value.int IntKind.i64 x_4)) ∧
 ∃ (x_5 : Int),
 gimp (!(decide (lo < 0) || decide (x_3 > x_4)))
 (∀ (W : World),
 Loc w.heap.size
 [Blk.mk n_2 86 [Value.string x, Value.slice p n_1 c] (wrM 2),
 Blk.mk n 69 [Value.string s, Value.int IntKind.i64 lo, Value.int IntKind.i64 hi] 0]
 w' W →
 W.cell? (Addr.mk n (0 + 2) none) = some (Value.int IntKind.i64 x_5)) ∧
 bsp (decide (lo < 0) || decide (x_3 > x_4) || decide (x_5 > 36500))
 (∀ (W : World),
 Loc w.heap.size
 [Blk.mk n_2 86 [Value.string x, Value.slice p n_1 c] (wrM 2),
 Blk.mk n 69 [Value.string s, Value.int IntKind.i64 lo, Value.int IntKind.i64 hi] 0]
 w' W →
 R (Ending.returned (Value.int IntKind.i64 2)) W)
 (∀ (W : World),
 Loc w.heap.size
 [Blk.mk n_2 86 [Value.string x, Value.slice p n_1 c] (wrM 2),
 Blk.mk n 69 [Value.string s, Value.int IntKind.i64 lo, Value.int IntKind.i64 hi] 0]
 w' W →
 R (Ending.returned (Value.int IntKind.i64 0)) W))
theorem vc_xrule (s : ByteArray) (lo : Int) (hi : Int) (w : World) (R : Ending → World → Prop) (h : VC_xrule s lo hi w R) : Calls Try.prog 35 ([Value.agg
    #[Value.string s, Value.int IntKind.i64 lo, Value.int IntKind.i64 hi]] : List Value).toArray w R := by
  have e : execR2 { P := Try.prog, loops := [], pur := pur2, tails := [], joins := [], boxes := [] } Try.f35.results.toList R (Try.f35.body.getD .skip) (initF [Value.agg
    #[Value.string s, Value.int IntKind.i64 lo,
      Value.int IntKind.i64
        hi]] (Try.f35.ntmps - ([Value.agg
    #[Value.string s, Value.int IntKind.i64 lo,
      Value.int IntKind.i64 hi]] : List Value).length)) w = VC_xrule s lo hi w R := by kernel_rfl
  have hb : Try.f35.body = some (Try.f35.body.getD .skip) := by kernel_rfl
  exact calls_of_exec2' (P := Try.prog) (fn := Try.f35) (c := Try.f35.body.getD .skip) (args := [Value.agg
    #[Value.string s, Value.int IntKind.i64 lo, Value.int IntKind.i64 hi]]) (w := w) (R := R) pur2_ok Try.func35 hb e h

def VC_xcheck (p : Option Addr) (n : Nat) (c : Nat) (w : World) (R : Ending → World → Prop) : Prop :=
 bsp (decide ((↑n : Int) > 64)) (R (Ending.returned (Value.int IntKind.i64 9)) w)
 (∃ (I : List Value → World → Prop),
 ∃ (m : List Value → World → Nat),
 I [Value.int IntKind.i64 0] w ∧
 ∀ (x : Int) (w' : World),
 I [Value.int IntKind.i64 x] w' →
 bsp (decide (x < (↑n : Int)))
 (nn true p fun (b o : Nat) =>
 (0 ≤ x ∧ x < (↑n : Int)) ∧
 ∃ (x_1 : ByteArray),
 ∃ (x_2 : Int),
 ∃ (x_3 : Int),
 AtL w' b (o + x.toNat * 3) [Value.string x_1, Value.int IntKind.i64 x_2, Value.int IntKind.i64 x_3] ∧
 CallsS Try.prog 35 #[Value.agg #[Value.string x_1, Value.int IntKind.i64 x_2, Value.int IntKind.i64 x_3]]
 w' fun (e : Ending) (w'_1 : World) =>
 ∃ (x_4 : Int),
 e = Ending.returned (Value.int IntKind.i64 x_4) ∧
 KeptL [] w' w'_1 ∧
 bsp (x_4 != 0) (R (Ending.returned (Value.int IntKind.i64 x_4)) w'_1)
 (I [Value.int IntKind.i64 (IntKind.i64.wrap (x + 1))] w'_1 ∧
 m [Value.int IntKind.i64 (IntKind.i64.wrap (x + 1))] w'_1 < m [Value.int IntKind.i64 x] w'))
 (R (Ending.returned (Value.int IntKind.i64 0)) w'))
theorem vc_xcheck (p : Option Addr) (n : Nat) (c : Nat) (w : World) (R : Ending → World → Prop) (h : VC_xcheck p n c w R) : Calls Try.prog 19 ([Value.slice
    p n c] : List Value).toArray w R := by
  have e : execR2 { P := Try.prog, loops := [(4, [(3, Ck.int IntKind.i64)])], pur := pur2, tails := [], joins := [], boxes := [] } Try.f19.results.toList R (Try.f19.body.getD .skip) (initF [Value.slice
    p n c] (Try.f19.ntmps - ([Value.slice p n c] : List Value).length)) w = VC_xcheck p n c w R := by kernel_rfl
  have hb : Try.f19.body = some (Try.f19.body.getD .skip) := by kernel_rfl
  exact calls_of_exec2' (P := Try.prog) (fn := Try.f19) (c := Try.f19.body.getD .skip) (args := [Value.slice p n
    c]) (w := w) (R := R) pur2_ok Try.func19 hb e h

def VC_xdays (p : Option Addr) (n : Nat) (c : Nat) (q : Option Addr) (k : Nat) (d : Nat) (w : World) (R : Ending → World → Prop) : Prop :=
 bsp ((↑k : Int) == 0) (R (Ending.returned (Value.tuple #[Value.int IntKind.i64 0, Value.int IntKind.i64 36500])) w)
 (∃ (I : List Value → World → Prop),
 ∃ (m : List Value → World → Nat),
 I [Value.int IntKind.i64 0, Value.int IntKind.i64 0, Value.int IntKind.i64 0] w ∧
 ∀ (x x_1 x_2 : Int) (w' : World),
 I [Value.int IntKind.i64 x, Value.int IntKind.i64 x_1, Value.int IntKind.i64 x_2] w' →
 bsp (decide (x < (↑k : Int)))
 (∃ (I_1 : List Value → World → Prop),
 ∃ (m_1 : List Value → World → Nat),
 I_1 [Value.int IntKind.i64 0, Value.int IntKind.i64 36500, Value.int IntKind.i64 0] w' ∧
 ∀ (x_3 x_4 x_5 : Int) (w'_1 : World),
 I_1 [Value.int IntKind.i64 x_3, Value.int IntKind.i64 x_4, Value.int IntKind.i64 x_5] w'_1 →
 bsp (decide (x_3 < (↑n : Int)))
 (nn true p fun (b o : Nat) =>
 (0 ≤ x_3 ∧ x_3 < (↑n : Int)) ∧
 ∃ (x_6 : ByteArray),
 w'_1.cell? (Addr.mk b (o + x_3.toNat * 3) none) = some (Value.string x_6) ∧
 CallsS Try.prog 36 #[Value.string x_6] w'_1 fun (e : Ending) (w' : World) =>
 ∃ (x_7 : ByteArray),
 ∃ (p_1 : Option Addr),
 ∃ (n_1 : Nat),
 ∃ (c : Nat),
 ∃ (x_8 : Int),
 ∃ (x_9 : Int),
 e =
 Ending.returned
 (Value.tuple
 #[Value.agg #[Value.string x_7, Value.slice p_1 n_1 c], Value.int IntKind.i64 x_8,
 Value.int IntKind.i64 x_9]) ∧
 KeptL [] w'_1 w' ∧
 ∀ (n_2 : Nat),
 nn true q fun (b o : Nat) =>
 (0 ≤ x ∧ x < (↑k : Int)) ∧
 ∃ (x_10 : ByteArray),
 (∀ (W : World),
 Loc w.heap.size [Blk.mk n_2 86 [Value.string x_7, Value.slice p_1 n_1 c] (wrM 2)] w' W →
 W.cell? (Addr.mk b (o + x.toNat) none) = some (Value.string x_10)) ∧
 ∀ (W : World),
 Loc w.heap.size [Blk.mk n_2 86 [Value.string x_7, Value.slice p_1 n_1 c] (wrM 2)] w' W →
 CallsS Try.prog 37
 #[Value.agg #[Value.string x_7, Value.slice p_1 n_1 c], Value.string x_10] W
 fun (e : Ending) (w' : World) =>
 ∃ (x : Bool),
 e = Ending.returned (Value.bool x) ∧
 KeptL [n_2] W w' ∧
 bsp x
 (nn true p fun (b o : Nat) =>
 (0 ≤ x_3 ∧ x_3 < (↑n : Int)) ∧
 ∃ (x : Int),
 (∀ (W : World),
 Loc w.heap.size [Blk.mk n_2 86 [Value.string x_7, Value.slice p_1 n_1 c] 0]
 w' W →
 W.cell? (Addr.mk b (o + x_3.toNat * 3 + 1) none) =
 some (Value.int IntKind.i64 x)) ∧
 nn true p fun (b o : Nat) =>
 (0 ≤ x_3 ∧ x_3 < (↑n : Int)) ∧
 ∃ (x_11 : Int),
 (∀ (W : World),
 Loc w.heap.size
 [Blk.mk n_2 86 [Value.string x_7, Value.slice p_1 n_1 c] 0] w' W →
 W.cell? (Addr.mk b (o + x_3.toNat * 3 + 2) none) =
 some (Value.int IntKind.i64 x_11)) ∧
 ∀ (W : World),
 Loc w.heap.size
 [Blk.mk n_2 86 [Value.string x_7, Value.slice p_1 n_1 c] 0] w' W →
 I_1
 [Value.int IntKind.i64 (IntKind.i64.wrap (x_3 + 1)),
 Value.int IntKind.i64 x_11, Value.int IntKind.i64 x]
 W ∧
 m_1
 [Value.int IntKind.i64 (IntKind.i64.wrap (x_3 + 1)),
 Value.int IntKind.i64 x_11, Value.int IntKind.i64 x]
 W <
 m_1
 [Value.int IntKind.i64 x_3, Value.int IntKind.i64 x_4,
 Value.int IntKind.i64 x_5]
 w'_1)
 (I_1
 [Value.int IntKind.i64 (IntKind.i64.wrap (x_3 + 1)), Value.int IntKind.i64 x_4,
 Value.int IntKind.i64 x_5]
 w' ∧
 m_1
 [Value.int IntKind.i64 (IntKind.i64.wrap (x_3 + 1)), Value.int IntKind.i64 x_4,
 Value.int IntKind.i64 x_5]
 w' <
 m_1
 [Value.int IntKind.i64 x_3, Value.int IntKind.i64 x_4,
 Value.int IntKind.i64 x_5]
 w'_1))
 (I
 [Value.int IntKind.i64 (IntKind.i64.wrap (x + 1)),
 Value.int IntKind.i64 (if x_4 > x_1 then x_4 else x_1),
 Value.int IntKind.i64 (if x_5 > x_2 then x_5 else x_2)]
 w'_1 ∧
 m
 [Value.int IntKind.i64 (IntKind.i64.wrap (x + 1)),
 Value.int IntKind.i64 (if x_4 > x_1 then x_4 else x_1),
 Value.int IntKind.i64 (if x_5 > x_2 then x_5 else x_2)]
 w'_1 <
 m [Value.int IntKind.i64 x, Value.int IntKind.i64 x_1, Value.int IntKind.i64 x_2] w'))
 (R (Ending.returned (Value.tuple #[Value.int IntKind.i64 x_2, Value.int IntKind.i64 x_1])) w'))
theorem vc_xdays (p : Option Addr) (n : Nat) (c : Nat) (q : Option Addr) (k : Nat) (d : Nat) (w : World) (R : Ending → World → Prop) (h : VC_xdays p n c q k d w R) : Calls Try.prog 20 ([Value.slice
    p n c,
  Value.slice q k d] : List Value).toArray w R := by
  have e : execR2 { P := Try.prog, loops := [(4, [(6, Ck.int IntKind.i64), (5, Ck.int IntKind.i64), (4, Ck.int IntKind.i64)]), (8, [(9, Ck.int IntKind.i64), (8, Ck.int IntKind.i64), (7, Ck.int IntKind.i64)])], pur := pur2, tails := [(11, 5)], joins := [], boxes := [] } Try.f20.results.toList R (Try.f20.body.getD .skip) (initF [Value.slice
    p n c,
  Value.slice q k
    d] (Try.f20.ntmps - ([Value.slice p n c,
  Value.slice q k d] : List Value).length)) w = VC_xdays p n c q k d w R := by kernel_rfl
  have hb : Try.f20.body = some (Try.f20.body.getD .skip) := by kernel_rfl
  exact calls_of_exec2' (P := Try.prog) (fn := Try.f20) (c := Try.f20.body.getD .skip) (args := [Value.slice p n c,
  Value.slice q k d]) (w := w) (R := R) pur2_ok Try.func20 hb e h

def VC_xless (f : Nat → Int) (g : Nat → Int) (w : World) (R : Ending → World → Prop) : Prop :=
 ∀ (n n_1 : Nat) (W : World),
 Loc w.heap.size
 [Blk.mk n_1 37
 (arrI IntKind.u8 g 32 0)
 2,
 Blk.mk n 37
 (arrI IntKind.u8 f 32 0)
 2]
 w W →
 ∃ (I : List Value → World → Prop),
 ∃ (m : List Value → World → Nat),
 I [Value.int IntKind.i64 0] W ∧
 ∀ (x : Int) (w' : World),
 I [Value.int IntKind.i64 x] w' →
 bsp (decide (x < 32))
 (∀ (W : World),
 Loc w.heap.size [] w' W →
 (0 ≤ x ∧ x < (↑32 : Int)) ∧
 ∃ (x_1 : Int),
 W.cell? (Addr.mk n (0 + x.toNat) none) = some (Value.int IntKind.u8 x_1) ∧
 (0 ≤ x ∧ x < (↑32 : Int)) ∧
 ∃ (x_2 : Int),
 W.cell? (Addr.mk n_1 (0 + x.toNat) none) = some (Value.int IntKind.u8 x_2) ∧
 bsp (x_1 != x_2)
 (∀ (W_1 : World),
 Loc w.heap.size [] W W_1 →
 (0 ≤ x ∧ x < (↑32 : Int)) ∧
 ∃ (x_3 : Int),
 W_1.cell? (Addr.mk n (0 + x.toNat) none) = some (Value.int IntKind.u8 x_3) ∧
 (0 ≤ x ∧ x < (↑32 : Int)) ∧
 ∃ (x_4 : Int),
 W_1.cell? (Addr.mk n_1 (0 + x.toNat) none) = some (Value.int IntKind.u8 x_4) ∧
 R (Ending.returned (Value.bool (decide (x_3 < x_4)))) W_1)
 (I [Value.int IntKind.i64 (IntKind.i64.wrap (x + 1))] W ∧
 m [Value.int IntKind.i64 (IntKind.i64.wrap (x + 1))] W < m [Value.int IntKind.i64 x] w'))
 (R (Ending.returned (Value.bool false)) w')
theorem vc_xless (f : Nat → Int) (g : Nat → Int) (w : World) (R : Ending → World → Prop) (h : VC_xless f g w R) : Calls Try.prog 67 ([Value.agg
    (arrI IntKind.u8 f 32 0).toArray,
  Value.agg (arrI IntKind.u8 g 32 0).toArray] : List Value).toArray w R := by
  have e : execR2 { P := Try.prog, loops := [(2, [(5, Ck.int IntKind.i64)])], pur := pur2, tails := [], joins := [], boxes := [] } Try.f67.results.toList R (Try.f67.body.getD .skip) (initF [Value.agg
    (arrI IntKind.u8 f 32 0).toArray,
  Value.agg
    (arrI IntKind.u8 g 32
        0).toArray] (Try.f67.ntmps - ([Value.agg (arrI IntKind.u8 f 32 0).toArray,
  Value.agg (arrI IntKind.u8 g 32 0).toArray] : List Value).length)) w = VC_xless f g w R := by kernel_rfl
  have hb : Try.f67.body = some (Try.f67.body.getD .skip) := by kernel_rfl
  exact calls_of_exec2' (P := Try.prog) (fn := Try.f67) (c := Try.f67.body.getD .skip) (args := [Value.agg
    (arrI IntKind.u8 f 32 0).toArray,
  Value.agg (arrI IntKind.u8 g 32 0).toArray]) (w := w) (R := R) pur2_ok Try.func67 hb e h

def VC_xolder (id : Nat → Int) (dt : Int) (ar : Int) (gp : Option Addr) (gn : Nat) (gc : Nat) (by_ : Int) (ct : Int) (hp : Option Addr) (hn : Nat) (hc : Nat) (wd : Bool) (id2 : Nat → Int) (dt2 : Int) (ar2 : Int) (gp2 : Option Addr) (gn2 : Nat) (gc2 : Nat) (by2_ : Int) (ct2 : Int) (hp2 : Option Addr) (hn2 : Nat) (hc2 : Nat) (wd2 : Bool) (w : World) (R : Ending → World → Prop) : Prop :=
 ∀ (n n_1 : Nat),
 ∃ (x : Int),
 gimp (!decide (ar < ar2))
 (∀ (W : World),
 Loc w.heap.size
 [Blk.mk n_1 48
 (arrI IntKind.u8 id2 32 0 ++ [Value.int IntKind.i64 dt2,
 Value.int IntKind.i64 ar2, Value.slice gp2 gn2 gc2, Value.int IntKind.i64 by2_, Value.int IntKind.i64 ct2,
 Value.slice hp2 hn2 hc2, Value.bool wd2])
 2,
 Blk.mk n 48
 (arrI IntKind.u8 id 32 0 ++ [Value.int IntKind.i64 dt,
 Value.int IntKind.i64 ar, Value.slice gp gn gc, Value.int IntKind.i64 by_, Value.int IntKind.i64 ct,
 Value.slice hp hn hc, Value.bool wd])
 2]
 w W →
 W.cell? (Addr.mk n (0 + 33) none) = some (Value.int IntKind.i64 x)) ∧
 ∃ (x_1 : Int),
 gimp (!decide (ar < ar2))
 (∀ (W : World),
 Loc w.heap.size
 [Blk.mk n_1 48
 (arrI IntKind.u8 id2 32 0 ++ [Value.int IntKind.i64 dt2,
 Value.int IntKind.i64 ar2, Value.slice gp2 gn2 gc2, Value.int IntKind.i64 by2_, Value.int IntKind.i64 ct2,
 Value.slice hp2 hn2 hc2, Value.bool wd2])
 2,
 Blk.mk n 48
 (arrI IntKind.u8 id 32 0 ++ [Value.int IntKind.i64 dt,
 Value.int IntKind.i64 ar, Value.slice gp gn gc, Value.int IntKind.i64 by_, Value.int IntKind.i64 ct,
 Value.slice hp hn hc, Value.bool wd])
 2]
 w W →
 W.cell? (Addr.mk n_1 (0 + 33) none) = some (Value.int IntKind.i64 x_1)) ∧
 ∃ (f : Nat → Int),
 gimp (!decide (ar < ar2) && x == x_1)
 (∀ (W : World),
 Loc w.heap.size
 [Blk.mk n_1 48
 (arrI IntKind.u8 id2 32 0 ++ [Value.int IntKind.i64 dt2,
 Value.int IntKind.i64 ar2, Value.slice gp2 gn2 gc2, Value.int IntKind.i64 by2_, Value.int IntKind.i64 ct2,
 Value.slice hp2 hn2 hc2, Value.bool wd2])
 2,
 Blk.mk n 48
 (arrI IntKind.u8 id 32 0 ++ [Value.int IntKind.i64 dt,
 Value.int IntKind.i64 ar, Value.slice gp gn gc, Value.int IntKind.i64 by_, Value.int IntKind.i64 ct,
 Value.slice hp hn hc, Value.bool wd])
 2]
 w W →
 AtL W n 0
 (arrI IntKind.u8 f 32 0)) ∧
 ∃ (f_1 : Nat → Int),
 gimp (!decide (ar < ar2) && x == x_1)
 (∀ (W : World),
 Loc w.heap.size
 [Blk.mk n_1 48
 (arrI IntKind.u8 id2 32 0 ++ [Value.int IntKind.i64 dt2,
 Value.int IntKind.i64 ar2, Value.slice gp2 gn2 gc2, Value.int IntKind.i64 by2_,
 Value.int IntKind.i64 ct2, Value.slice hp2 hn2 hc2, Value.bool wd2])
 2,
 Blk.mk n 48
 (arrI IntKind.u8 id 32 0 ++ [Value.int IntKind.i64 dt,
 Value.int IntKind.i64 ar, Value.slice gp gn gc, Value.int IntKind.i64 by_, Value.int IntKind.i64 ct,
 Value.slice hp hn hc, Value.bool wd])
 2]
 w W →
 AtL W n_1 0
 (arrI IntKind.u8 f_1 32 0)) ∧
 ∀ (W : World),
 Loc w.heap.size
 [Blk.mk n_1 48
 (arrI IntKind.u8 id2 32 0 ++ [Value.int IntKind.i64 dt2,
 Value.int IntKind.i64 ar2, Value.slice gp2 gn2 gc2, Value.int IntKind.i64 by2_,
 Value.int IntKind.i64 ct2, Value.slice hp2 hn2 hc2, Value.bool wd2])
 2,
 Blk.mk n 48
 (arrI IntKind.u8 id 32 0 ++ [Value.int IntKind.i64 dt,
 Value.int IntKind.i64 ar, Value.slice gp gn gc, Value.int IntKind.i64 by_, Value.int IntKind.i64 ct,
 Value.slice hp hn hc, Value.bool wd])
 2]
 w W →
 bsp (!decide (ar < ar2))
 (bsp (x == x_1)
 (CallsS Try.prog 67
 #[Value.agg
 (arrI IntKind.u8 f 32 0).toArray,
 Value.agg
 (arrI IntKind.u8 f_1 32 0).toArray]
 W fun (e : Ending) (w' : World) =>
 ∃ (x : Bool),
 e = Ending.returned (Value.bool x) ∧
 KeptL [n_1, n] W w' ∧ R (Ending.returned (Value.bool (false || true && x))) w')
 (KeptL [n_1, n] W W ∧ R (Ending.returned (Value.bool (false || false))) W))
 (KeptL [n_1, n] W W ∧ R (Ending.returned (Value.bool true)) W)
theorem vc_xolder (id : Nat → Int) (dt : Int) (ar : Int) (gp : Option Addr) (gn : Nat) (gc : Nat) (by_ : Int) (ct : Int) (hp : Option Addr) (hn : Nat) (hc : Nat) (wd : Bool) (id2 : Nat → Int) (dt2 : Int) (ar2 : Int) (gp2 : Option Addr) (gn2 : Nat) (gc2 : Nat) (by2_ : Int) (ct2 : Int) (hp2 : Option Addr) (hn2 : Nat) (hc2 : Nat) (wd2 : Bool) (w : World) (R : Ending → World → Prop) (h : VC_xolder id dt ar gp gn gc by_ ct hp hn hc wd id2 dt2 ar2 gp2 gn2 gc2 by2_ ct2 hp2 hn2 hc2 wd2 w R) : Calls Try.prog 42 ([Value.agg
    (arrI IntKind.u8 id 32 0 ++
        [Value.int IntKind.i64 dt, Value.int IntKind.i64 ar, Value.slice gp gn gc, Value.int IntKind.i64 by_,
          Value.int IntKind.i64 ct, Value.slice hp hn hc, Value.bool wd]).toArray,
  Value.agg
    (arrI IntKind.u8 id2 32 0 ++
        [Value.int IntKind.i64 dt2, Value.int IntKind.i64 ar2, Value.slice gp2 gn2 gc2, Value.int IntKind.i64 by2_,
          Value.int IntKind.i64 ct2, Value.slice hp2 hn2 hc2, Value.bool wd2]).toArray] : List Value).toArray w R := by
  have e : execR2 { P := Try.prog, loops := [], pur := pur2, tails := [], joins := [], boxes := [] } Try.f42.results.toList R (Try.f42.body.getD .skip) (initF [Value.agg
    (arrI IntKind.u8 id 32 0 ++
        [Value.int IntKind.i64 dt, Value.int IntKind.i64 ar, Value.slice gp gn gc, Value.int IntKind.i64 by_,
          Value.int IntKind.i64 ct, Value.slice hp hn hc, Value.bool wd]).toArray,
  Value.agg
    (arrI IntKind.u8 id2 32 0 ++
        [Value.int IntKind.i64 dt2, Value.int IntKind.i64 ar2, Value.slice gp2 gn2 gc2, Value.int IntKind.i64 by2_,
          Value.int IntKind.i64 ct2, Value.slice hp2 hn2 hc2,
          Value.bool
            wd2]).toArray] (Try.f42.ntmps - ([Value.agg
    (arrI IntKind.u8 id 32 0 ++
        [Value.int IntKind.i64 dt, Value.int IntKind.i64 ar, Value.slice gp gn gc, Value.int IntKind.i64 by_,
          Value.int IntKind.i64 ct, Value.slice hp hn hc, Value.bool wd]).toArray,
  Value.agg
    (arrI IntKind.u8 id2 32 0 ++
        [Value.int IntKind.i64 dt2, Value.int IntKind.i64 ar2, Value.slice gp2 gn2 gc2, Value.int IntKind.i64 by2_,
          Value.int IntKind.i64 ct2, Value.slice hp2 hn2 hc2,
          Value.bool
            wd2]).toArray] : List Value).length)) w = VC_xolder id dt ar gp gn gc by_ ct hp hn hc wd id2 dt2 ar2 gp2 gn2 gc2 by2_ ct2 hp2 hn2 hc2 wd2 w R := by kernel_rfl
  have hb : Try.f42.body = some (Try.f42.body.getD .skip) := by kernel_rfl
  exact calls_of_exec2' (P := Try.prog) (fn := Try.f42) (c := Try.f42.body.getD .skip) (args := [Value.agg
    (arrI IntKind.u8 id 32 0 ++
        [Value.int IntKind.i64 dt, Value.int IntKind.i64 ar, Value.slice gp gn gc, Value.int IntKind.i64 by_,
          Value.int IntKind.i64 ct, Value.slice hp hn hc, Value.bool wd]).toArray,
  Value.agg
    (arrI IntKind.u8 id2 32 0 ++
        [Value.int IntKind.i64 dt2, Value.int IntKind.i64 ar2, Value.slice gp2 gn2 gc2, Value.int IntKind.i64 by2_,
          Value.int IntKind.i64 ct2, Value.slice hp2 hn2 hc2,
          Value.bool wd2]).toArray]) (w := w) (R := R) pur2_ok Try.func42 hb e h

def VC_xfind (p : Option Addr) (n : Nat) (c : Nat) (f : Nat → Int) (w : World) (R : Ending → World → Prop) : Prop :=
 ∀ (n_1 : Nat) (W : World),
 Loc w.heap.size
 [Blk.mk n_1 37
 (arrI IntKind.u8 f 32 0)
 2]
 w W →
 ∃ (I : List Value → World → Prop),
 ∃ (m : List Value → World → Nat),
 I [Value.int IntKind.i64 0] W ∧
 ∀ (x : Int) (w' : World),
 I [Value.int IntKind.i64 x] w' →
 Loc w.heap.size
 [Blk.mk n_1 37
 (arrI IntKind.u8 f 32 0)
 0]
 w' w' →
 bsp (decide (x < (↑n : Int)))
 (nn true p fun (b o : Nat) =>
 (0 ≤ x ∧ x < (↑n : Int)) ∧
 ∃ (f_1 : Nat → Int),
 (∀ (W : World),
 Loc w.heap.size
 [Blk.mk n_1 37
 (arrI IntKind.u8 f 32 0)
 0]
 w' W →
 AtL W b (o + x.toNat * 39)
 (arrI IntKind.u8 f_1 32 0)) ∧
 ∃ (r : Bool),
 EqP Try.prog 37
 (Value.agg
 (arrI IntKind.u8 f_1 32 0).toArray)
 (Value.agg
 (arrI IntKind.u8 f 32 0).toArray)
 r ∧
 bsp r
 (∀ (W : World),
 Loc w.heap.size
 [Blk.mk n_1 37
 (arrI IntKind.u8 f 32 0)
 0]
 w' W →
 R (Ending.returned (Value.int IntKind.i64 x)) W)
 (∀ (W : World),
 Loc w.heap.size
 [Blk.mk n_1 37
 (arrI IntKind.u8 f 32 0)
 0]
 w' W →
 I [Value.int IntKind.i64 (IntKind.i64.wrap (x + 1))] W ∧
 m [Value.int IntKind.i64 (IntKind.i64.wrap (x + 1))] W < m [Value.int IntKind.i64 x] w'))
 (R (Ending.returned (Value.int IntKind.i64 (-1))) w')
theorem vc_xfind (p : Option Addr) (n : Nat) (c : Nat) (f : Nat → Int) (w : World) (R : Ending → World → Prop) (h : VC_xfind p n c f w R) : Calls Try.prog 46 ([Value.slice
    p n c,
  Value.agg (arrI IntKind.u8 f 32 0).toArray] : List Value).toArray w R := by
  have e : execR2 { P := Try.prog, loops := [(2, [(5, Ck.int IntKind.i64)])], pur := pur2, tails := [], joins := [], boxes := [] } Try.f46.results.toList R (Try.f46.body.getD .skip) (initF [Value.slice
    p n c,
  Value.agg
    (arrI IntKind.u8 f 32
        0).toArray] (Try.f46.ntmps - ([Value.slice p n c,
  Value.agg (arrI IntKind.u8 f 32 0).toArray] : List Value).length)) w = VC_xfind p n c f w R := by kernel_rfl
  have hb : Try.f46.body = some (Try.f46.body.getD .skip) := by kernel_rfl
  exact calls_of_exec2' (P := Try.prog) (fn := Try.f46) (c := Try.f46.body.getD .skip) (args := [Value.slice p n c,
  Value.agg (arrI IntKind.u8 f 32 0).toArray]) (w := w) (R := R) pur2_ok Try.func46 hb e h

def VC_xprot (p : Option Addr) (n : Nat) (c : Nat) (id : Nat → Int) (dt : Int) (ar : Int) (gp : Option Addr) (gn : Nat) (gc : Nat) (by_ : Int) (ct : Int) (hp : Option Addr) (hn : Nat) (hc : Nat) (wd : Bool) (now : Int) (w : World) (R : Ending → World → Prop) : Prop :=
 ∀ (n_1 : Nat),
 bsp (permC ct)
 (∀ (W : World),
 Loc w.heap.size
 [Blk.mk n_1 48
 (arrI IntKind.u8 id 32 0 ++ [Value.int IntKind.i64 dt, Value.int IntKind.i64 ar,
 Value.slice gp gn gc, Value.int IntKind.i64 by_, Value.int IntKind.i64 ct, Value.slice hp hn hc, Value.bool wd])
 2]
 w W →
 R (Ending.returned (Value.bool true)) W)
 (∃ (p_1 : Option Addr),
 ∃ (n_2 : Nat),
 ∃ (c_1 : Nat),
 gimp (!ct != 0)
 (∀ (W : World),
 Loc w.heap.size
 [Blk.mk n_1 48
 (arrI IntKind.u8 id 32 0 ++ [Value.int IntKind.i64 dt,
 Value.int IntKind.i64 ar, Value.slice gp gn gc, Value.int IntKind.i64 by_, Value.int IntKind.i64 ct,
 Value.slice hp hn hc, Value.bool wd])
 2]
 w W →
 W.cell? (Addr.mk n_1 (0 + 37) none) = some (Value.slice p_1 n_2 c_1)) ∧
 ∃ (x : Int),
 gimp (ct != 0 || decide ((↑n_2 : Int) > 0))
 (∀ (W : World),
 Loc w.heap.size
 [Blk.mk n_1 48
 (arrI IntKind.u8 id 32 0 ++ [Value.int IntKind.i64 dt,
 Value.int IntKind.i64 ar, Value.slice gp gn gc, Value.int IntKind.i64 by_, Value.int IntKind.i64 ct,
 Value.slice hp hn hc, Value.bool wd])
 2]
 w W →
 W.cell? (Addr.mk n_1 (0 + 32) none) = some (Value.int IntKind.i64 x)) ∧
 bsp ((ct != 0 || decide ((↑n_2 : Int) > 0)) && decide (now ≤ IntKind.i64.wrap (x + 20160)))
 (∀ (W : World),
 Loc w.heap.size
 [Blk.mk n_1 48
 (arrI IntKind.u8 id 32 0 ++ [Value.int IntKind.i64 dt,
 Value.int IntKind.i64 ar, Value.slice gp gn gc, Value.int IntKind.i64 by_, Value.int IntKind.i64 ct,
 Value.slice hp hn hc, Value.bool wd])
 2]
 w W →
 R (Ending.returned (Value.bool true)) W)
 (∀ (W : World),
 Loc w.heap.size
 [Blk.mk n_1 48
 (arrI IntKind.u8 id 32 0 ++ [Value.int IntKind.i64 dt,
 Value.int IntKind.i64 ar, Value.slice gp gn gc, Value.int IntKind.i64 by_, Value.int IntKind.i64 ct,
 Value.slice hp hn hc, Value.bool wd])
 2]
 w W →
 ∃ (I : List Value → World → Prop),
 ∃ (m : List Value → World → Nat),
 I [Value.int IntKind.i64 0] W ∧
 ∀ (x : Int) (w' : World),
 I [Value.int IntKind.i64 x] w' →
 Loc w.heap.size
 [Blk.mk n_1 48
 (arrI IntKind.u8 id 32 0 ++ [Value.int IntKind.i64 dt,
 Value.int IntKind.i64 ar, Value.slice gp gn gc, Value.int IntKind.i64 by_,
 Value.int IntKind.i64 ct, Value.slice hp hn hc, Value.bool wd])
 0]
 w' w' →
 bsp (decide (x < (↑hn : Int)))
 (nn true hp fun (b o : Nat) =>
 (0 ≤ x ∧ x < (↑hn : Int)) ∧
 ∃ (f : Nat → Int),
 AtL w' b (o + x.toNat * 32)
 (arrI IntKind.u8 f 32 0) ∧
 CallsS Try.prog 46
 #[Value.slice p n c,
 Value.agg
 (arrI IntKind.u8 f 32 0).toArray]
 w' fun (e : Ending) (w'_1 : World) =>
 ∃ (x_1 : Int),
 e = Ending.returned (Value.int IntKind.i64 x_1) ∧
 KeptL [n_1] w' w'_1 ∧
 bsp (decide (x_1 ≥ 0)) (R (Ending.returned (Value.bool true)) w'_1)
 (I [Value.int IntKind.i64 (IntKind.i64.wrap (x + 1))] w'_1 ∧
 m [Value.int IntKind.i64 (IntKind.i64.wrap (x + 1))] w'_1 < m [Value.int IntKind.i64 x] w'))
 (R (Ending.returned (Value.bool false)) w')))
theorem vc_xprot (p : Option Addr) (n : Nat) (c : Nat) (id : Nat → Int) (dt : Int) (ar : Int) (gp : Option Addr) (gn : Nat) (gc : Nat) (by_ : Int) (ct : Int) (hp : Option Addr) (hn : Nat) (hc : Nat) (wd : Bool) (now : Int) (w : World) (R : Ending → World → Prop) (h : VC_xprot p n c id dt ar gp gn gc by_ ct hp hn hc wd now w R) : Calls Try.prog 27 ([Value.slice
    p n c,
  Value.agg
    (arrI IntKind.u8 id 32 0 ++
        [Value.int IntKind.i64 dt, Value.int IntKind.i64 ar, Value.slice gp gn gc, Value.int IntKind.i64 by_,
          Value.int IntKind.i64 ct, Value.slice hp hn hc, Value.bool wd]).toArray,
  Value.int IntKind.i64 now] : List Value).toArray w R := by
  have e : execR2 { P := Try.prog, loops := [(6, [(7, Ck.int IntKind.i64)])], pur := pur2, tails := [], joins := [], boxes := [] } Try.f27.results.toList R (Try.f27.body.getD .skip) (initF [Value.slice
    p n c,
  Value.agg
    (arrI IntKind.u8 id 32 0 ++
        [Value.int IntKind.i64 dt, Value.int IntKind.i64 ar, Value.slice gp gn gc, Value.int IntKind.i64 by_,
          Value.int IntKind.i64 ct, Value.slice hp hn hc, Value.bool wd]).toArray,
  Value.int IntKind.i64
    now] (Try.f27.ntmps - ([Value.slice p n c,
  Value.agg
    (arrI IntKind.u8 id 32 0 ++
        [Value.int IntKind.i64 dt, Value.int IntKind.i64 ar, Value.slice gp gn gc, Value.int IntKind.i64 by_,
          Value.int IntKind.i64 ct, Value.slice hp hn hc, Value.bool wd]).toArray,
  Value.int IntKind.i64
    now] : List Value).length)) w = VC_xprot p n c id dt ar gp gn gc by_ ct hp hn hc wd now w R := by kernel_rfl
  have hb : Try.f27.body = some (Try.f27.body.getD .skip) := by kernel_rfl
  exact calls_of_exec2' (P := Try.prog) (fn := Try.f27) (c := Try.f27.body.getD .skip) (args := [Value.slice p n c,
  Value.agg
    (arrI IntKind.u8 id 32 0 ++
        [Value.int IntKind.i64 dt, Value.int IntKind.i64 ar, Value.slice gp gn gc, Value.int IntKind.i64 by_,
          Value.int IntKind.i64 ct, Value.slice hp hn hc, Value.bool wd]).toArray,
  Value.int IntKind.i64 now]) (w := w) (R := R) pur2_ok Try.func27 hb e h

def VC_xtotal (p : Option Addr) (n : Nat) (c : Nat) (w : World) (R : Ending → World → Prop) : Prop :=
 ∃ (I : List Value → World → Prop),
 ∃ (m : List Value → World → Nat),
 I [Value.int IntKind.i64 0, Value.int IntKind.i64 0] w ∧
 ∀ (x x_1 : Int) (w' : World),
 I [Value.int IntKind.i64 x, Value.int IntKind.i64 x_1] w' →
 bsp (decide (x < (↑n : Int)))
 (nn true p fun (b o : Nat) =>
 (0 ≤ x ∧ x < (↑n : Int)) ∧
 ∃ (x_2 : Int),
 w'.cell? (Addr.mk b (o + x.toNat * 39 + 35) none) = some (Value.int IntKind.i64 x_2) ∧
 I [Value.int IntKind.i64 (IntKind.i64.wrap (x + 1)), Value.int IntKind.i64 (IntKind.i64.wrap (x_1 + x_2))]
 w' ∧
 m [Value.int IntKind.i64 (IntKind.i64.wrap (x + 1)), Value.int IntKind.i64 (IntKind.i64.wrap (x_1 + x_2))]
 w' <
 m [Value.int IntKind.i64 x, Value.int IntKind.i64 x_1] w')
 (R (Ending.returned (Value.int IntKind.i64 x_1)) w')
theorem vc_xtotal (p : Option Addr) (n : Nat) (c : Nat) (w : World) (R : Ending → World → Prop) (h : VC_xtotal p n c w R) : Calls Try.prog 40 ([Value.slice
    p n c] : List Value).toArray w R := by
  have e : execR2 { P := Try.prog, loops := [(3, [(4, Ck.int IntKind.i64), (3, Ck.int IntKind.i64)])], pur := pur2, tails := [], joins := [], boxes := [] } Try.f40.results.toList R (Try.f40.body.getD .skip) (initF [Value.slice
    p n c] (Try.f40.ntmps - ([Value.slice p n c] : List Value).length)) w = VC_xtotal p n c w R := by kernel_rfl
  have hb : Try.f40.body = some (Try.f40.body.getD .skip) := by kernel_rfl
  exact calls_of_exec2' (P := Try.prog) (fn := Try.f40) (c := Try.f40.body.getD .skip) (args := [Value.slice p n
    c]) (w := w) (R := R) pur2_ok Try.func40 hb e h

end Go.Proofs.Ytmjanmffnblcoaa

/- The formulas of functions by the symbolic evaluator, and that each gives the call's contract. Written by a program (gen.py). No condition. -/
namespace Go.Proofs.Ytmjanmffnblcoaa
set_option maxRecDepth 100000
set_option linter.unusedVariables false

def VC_xgoes (p : Option Addr) (n : Nat) (c : Nat) (q : Option Addr) (k : Nat) (d : Nat) (id : Nat → Int) (dt : Int) (ar : Int) (gp : Option Addr) (gn : Nat) (gc : Nat) (by_ : Int) (ct : Int) (hp : Option Addr) (hn : Nat) (hc : Nat) (wd : Bool) (now : Int) (step : Int) (w : World) (R : Ending → World → Prop) : Prop :=
 ∀ (n_1 : Nat) (W : World),
 Loc w.heap.size
 [Blk.mk n_1 48
 (arrI IntKind.u8 id 32 0 ++ [Value.int IntKind.i64 dt, Value.int IntKind.i64 ar,
 Value.slice gp gn gc, Value.int IntKind.i64 by_, Value.int IntKind.i64 ct, Value.slice hp hn hc, Value.bool wd])
 2]
 w W →
 CallsS Try.prog 27
 #[Value.slice q k d,
 Value.agg
 (arrI IntKind.u8 id 32 0 ++ [Value.int IntKind.i64 dt, Value.int IntKind.i64 ar,
 Value.slice gp gn gc, Value.int IntKind.i64 by_, Value.int IntKind.i64 ct, Value.slice hp hn hc, Value.bool wd]).toArray,
 Value.int IntKind.i64 now]
 W fun (e : Ending) (w' : World) =>
 ∃ (x : Bool),
 e = Ending.returned (Value.bool x) ∧
 KeptL [n_1] W w' ∧
 bsp x (R (Ending.returned (Value.bool false)) w')
 (CallsS Try.prog 20 #[Value.slice p n c, Value.slice gp gn gc] w' fun (e : Ending) (w'_1 : World) =>
 ∃ (x : Int),
 ∃ (x_1 : Int),
 e = Ending.returned (Value.tuple #[Value.int IntKind.i64 x, Value.int IntKind.i64 x_1]) ∧
 KeptL [n_1] w' w'_1 ∧
 bsp (step == 1)
 (∃ (x : Int),
 gimp wd (w'_1.cell? (Addr.mk n_1 (0 + 36) none) = some (Value.int IntKind.i64 x)) ∧
 R (Ending.returned (Value.bool (wd && x == 0))) w'_1)
 (bsp (step == 2)
 (R (Ending.returned (Value.bool (decide (now ≥ IntKind.i64.wrap (ar + IntKind.i64.wrap (x_1 * 1440))))))
 w'_1)
 (R (Ending.returned (Value.bool (decide (now ≥ IntKind.i64.wrap (ar + IntKind.i64.wrap (x * 1440))))))
 w'_1)))
theorem vc_xgoes (p : Option Addr) (n : Nat) (c : Nat) (q : Option Addr) (k : Nat) (d : Nat) (id : Nat → Int) (dt : Int) (ar : Int) (gp : Option Addr) (gn : Nat) (gc : Nat) (by_ : Int) (ct : Int) (hp : Option Addr) (hn : Nat) (hc : Nat) (wd : Bool) (now : Int) (step : Int) (w : World) (R : Ending → World → Prop) (h : VC_xgoes p n c q k d id dt ar gp gn gc by_ ct hp hn hc wd now step w R) : Calls Try.prog 41 ([Value.slice
    p n c,
  Value.slice q k d,
  Value.agg
    (arrI IntKind.u8 id 32 0 ++
        [Value.int IntKind.i64 dt, Value.int IntKind.i64 ar, Value.slice gp gn gc, Value.int IntKind.i64 by_,
          Value.int IntKind.i64 ct, Value.slice hp hn hc, Value.bool wd]).toArray,
  Value.int IntKind.i64 now, Value.int IntKind.i64 step] : List Value).toArray w R := by
  have e : execR2 { P := Try.prog, loops := [], pur := pur2, tails := [], joins := [], boxes := [] } Try.f41.results.toList R (Try.f41.body.getD .skip) (initF [Value.slice
    p n c,
  Value.slice q k d,
  Value.agg
    (arrI IntKind.u8 id 32 0 ++
        [Value.int IntKind.i64 dt, Value.int IntKind.i64 ar, Value.slice gp gn gc, Value.int IntKind.i64 by_,
          Value.int IntKind.i64 ct, Value.slice hp hn hc, Value.bool wd]).toArray,
  Value.int IntKind.i64 now,
  Value.int IntKind.i64
    step] (Try.f41.ntmps - ([Value.slice p n c, Value.slice q k d,
  Value.agg
    (arrI IntKind.u8 id 32 0 ++
        [Value.int IntKind.i64 dt, Value.int IntKind.i64 ar, Value.slice gp gn gc, Value.int IntKind.i64 by_,
          Value.int IntKind.i64 ct, Value.slice hp hn hc, Value.bool wd]).toArray,
  Value.int IntKind.i64 now,
  Value.int IntKind.i64
    step] : List Value).length)) w = VC_xgoes p n c q k d id dt ar gp gn gc by_ ct hp hn hc wd now step w R := by kernel_rfl
  have hb : Try.f41.body = some (Try.f41.body.getD .skip) := by kernel_rfl
  exact calls_of_exec2' (P := Try.prog) (fn := Try.f41) (c := Try.f41.body.getD .skip) (args := [Value.slice p n c,
  Value.slice q k d,
  Value.agg
    (arrI IntKind.u8 id 32 0 ++
        [Value.int IntKind.i64 dt, Value.int IntKind.i64 ar, Value.slice gp gn gc, Value.int IntKind.i64 by_,
          Value.int IntKind.i64 ct, Value.slice hp hn hc, Value.bool wd]).toArray,
  Value.int IntKind.i64 now, Value.int IntKind.i64 step]) (w := w) (R := R) pur2_ok Try.func41 hb e h

def VC_xwrong (p : Option Addr) (n : Nat) (c : Nat) (q : Option Addr) (k : Nat) (d : Nat) (now : Int) (budget : Int) (w : World) (R : Ending → World → Prop) : Prop :=
 CallsS Try.prog 19 #[Value.slice p n c] w fun (e : Ending) (w' : World) =>
 ∃ (x : Int),
 e = Ending.returned (Value.int IntKind.i64 x) ∧
 KeptL [] w w' ∧
 bsp (x != 0) (R (Ending.returned (Value.int IntKind.i64 x)) w')
 (bsp (decide (now < 0) || decide (now > 105190559) || decide (budget < 0))
 (R (Ending.returned (Value.int IntKind.i64 2)) w')
 (∃ (I : List Value → World → Prop),
 ∃ (m : List Value → World → Nat),
 I [Value.int IntKind.i64 0] w' ∧
 ∀ (x : Int) (w' : World),
 I [Value.int IntKind.i64 x] w' →
 bsp (decide (x < (↑k : Int)))
 (nn true q fun (b o : Nat) =>
 (0 ≤ x ∧ x < (↑k : Int)) ∧
 ∃ (f : Nat → Int),
 ∃ (x_1 : Int),
 ∃ (x_2 : Int),
 ∃ (p : Option Addr),
 ∃ (n : Nat),
 ∃ (c : Nat),
 ∃ (x_3 : Int),
 ∃ (x_4 : Int),
 ∃ (p_1 : Option Addr),
 ∃ (n_1 : Nat),
 ∃ (c_1 : Nat),
 ∃ (x_5 : Bool),
 AtL w' b (o + x.toNat * 39)
 (arrI IntKind.u8 f 32 0 ++ [Value.int IntKind.i64 x_1,
 Value.int IntKind.i64 x_2, Value.slice p n c, Value.int IntKind.i64 x_3,
 Value.int IntKind.i64 x_4, Value.slice p_1 n_1 c_1, Value.bool x_5]) ∧
 ∀ (n_2 : Nat),
 ∃ (x_6 : Int),
 gimp (!decide (x_1 < 0))
 (∀ (W : World),
 Loc w.heap.size
 [Blk.mk n_2 48
 (arrI IntKind.u8 f 32 0 ++ [Value.int IntKind.i64 x_1, Value.int IntKind.i64 x_2,
 Value.slice p n c, Value.int IntKind.i64 x_3, Value.int IntKind.i64 x_4,
 Value.slice p_1 n_1 c_1, Value.bool x_5])
 (wrM 2)]
 w' W →
 W.cell? (Addr.mk n_2 (0 + 32) none) = some (Value.int IntKind.i64 x_6)) ∧
 ∃ (x_7 : Int),
 gimp (!(decide (x_1 < 0) || decide (x_6 > 105190559)))
 (∀ (W : World),
 Loc w.heap.size
 [Blk.mk n_2 48
 (arrI IntKind.u8 f 32 0 ++ [Value.int IntKind.i64 x_1, Value.int IntKind.i64 x_2, Value.slice p n c,
 Value.int IntKind.i64 x_3, Value.int IntKind.i64 x_4, Value.slice p_1 n_1 c_1,
 Value.bool x_5])
 (wrM 2)]
 w' W →
 W.cell? (Addr.mk n_2 (0 + 33) none) = some (Value.int IntKind.i64 x_7)) ∧
 ∃ (x_8 : Int),
 gimp (!(decide (x_1 < 0) || decide (x_6 > 105190559) || decide (x_7 < 0)))
 (∀ (W : World),
 Loc w.heap.size
 [Blk.mk n_2 48
 (arrI IntKind.u8 f 32 0 ++ [Value.int IntKind.i64 x_1, Value.int IntKind.i64 x_2, Value.slice p n c,
 Value.int IntKind.i64 x_3, Value.int IntKind.i64 x_4, Value.slice p_1 n_1 c_1,
 Value.bool x_5])
 (wrM 2)]
 w' W →
 W.cell? (Addr.mk n_2 (0 + 33) none) = some (Value.int IntKind.i64 x_8)) ∧
 ∃ (x_9 : Int),
 gimp
 (!(decide (x_1 < 0) || decide (x_6 > 105190559) || decide (x_7 < 0) ||
 decide (x_8 > 105190559)))
 (∀ (W : World),
 Loc w.heap.size
 [Blk.mk n_2 48
 (arrI IntKind.u8 f 32 0 ++ [Value.int IntKind.i64 x_1, Value.int IntKind.i64 x_2, Value.slice p n c,
 Value.int IntKind.i64 x_3, Value.int IntKind.i64 x_4,
 Value.slice p_1 n_1 c_1, Value.bool x_5])
 (wrM 2)]
 w' W →
 W.cell? (Addr.mk n_2 (0 + 35) none) = some (Value.int IntKind.i64 x_9)) ∧
 ∃ (x_10 : Int),
 gimp
 (!(decide (x_1 < 0) || decide (x_6 > 105190559) || decide (x_7 < 0) ||
 decide (x_8 > 105190559) ||
 decide (x_9 < 0)))
 (∀ (W : World),
 Loc w.heap.size
 [Blk.mk n_2 48
 (arrI IntKind.u8 f 32 0 ++ [Value.int IntKind.i64 x_1, Value.int IntKind.i64 x_2, Value.slice p n c,
 Value.int IntKind.i64 x_3, Value.int IntKind.i64 x_4,
 Value.slice p_1 n_1 c_1, Value.bool x_5])
 (wrM 2)]
 w' W →
 W.cell? (Addr.mk n_2 (0 + 35) none) = some (Value.int IntKind.i64 x_10)) ∧
 ∃ (x_11 : Int),
 gimp
 (!(decide (x_1 < 0) || decide (x_6 > 105190559) || decide (x_7 < 0) ||
 decide (x_8 > 105190559) ||
 decide (x_9 < 0) ||
 decide (x_10 > 1099511627776)))
 (∀ (W : World),
 Loc w.heap.size
 [Blk.mk n_2 48
 (arrI IntKind.u8 f 32 0 ++ [Value.int IntKind.i64 x_1, Value.int IntKind.i64 x_2, Value.slice p n c,
 Value.int IntKind.i64 x_3, Value.int IntKind.i64 x_4,
 Value.slice p_1 n_1 c_1, Value.bool x_5])
 (wrM 2)]
 w' W →
 W.cell? (Addr.mk n_2 (0 + 36) none) = some (Value.int IntKind.i64 x_11)) ∧
 ∃ (x_12 : Int),
 gimp
 (!(decide (x_1 < 0) || decide (x_6 > 105190559) || decide (x_7 < 0) ||
 decide (x_8 > 105190559) ||
 decide (x_9 < 0) ||
 decide (x_10 > 1099511627776) ||
 decide (x_11 < 0)))
 (∀ (W : World),
 Loc w.heap.size
 [Blk.mk n_2 48
 (arrI IntKind.u8 f 32 0 ++ [Value.int IntKind.i64 x_1, Value.int IntKind.i64 x_2,
 Value.slice p n c, Value.int IntKind.i64 x_3,
 Value.int IntKind.i64 x_4, Value.slice p_1 n_1 c_1, Value.bool x_5])
 (wrM 2)]
 w' W →
 W.cell? (Addr.mk n_2 (0 + 36) none) = some (Value.int IntKind.i64 x_12)) ∧
 bsp
 (decide (x_1 < 0) || decide (x_6 > 105190559) || decide (x_7 < 0) ||
 decide (x_8 > 105190559) ||
 decide (x_9 < 0) ||
 decide (x_10 > 1099511627776) ||
 decide (x_11 < 0) ||
 decide (x_12 > 5))
 (∀ (W : World),
 Loc w.heap.size
 [Blk.mk n_2 48
 (arrI IntKind.u8 f 32 0 ++ [Value.int IntKind.i64 x_1, Value.int IntKind.i64 x_2,
 Value.slice p n c, Value.int IntKind.i64 x_3,
 Value.int IntKind.i64 x_4, Value.slice p_1 n_1 c_1, Value.bool x_5])
 (wrM 2)]
 w' W →
 R (Ending.returned (Value.int IntKind.i64 2)) W)
 ((0 ≤ x ∧ x ≤ (↑d : Int)) ∧
 ∀ (W : World),
 Loc w.heap.size
 [Blk.mk n_2 48
 (arrI IntKind.u8 f 32 0 ++ [Value.int IntKind.i64 x_1, Value.int IntKind.i64 x_2,
 Value.slice p n c, Value.int IntKind.i64 x_3,
 Value.int IntKind.i64 x_4, Value.slice p_1 n_1 c_1, Value.bool x_5])
 (wrM 2)]
 w' W →
 CallsS Try.prog 46
 #[Value.slice q x.toNat d,
 Value.agg
 (arrI IntKind.u8 f 32 0).toArray]
 W fun (e : Ending) (w'_1 : World) =>
 ∃ (x_13 : Int),
 e = Ending.returned (Value.int IntKind.i64 x_13) ∧
 KeptL [n_2] W w'_1 ∧
 bsp (decide (x_13 ≥ 0))
 (R (Ending.returned (Value.int IntKind.i64 7)) w'_1)
 (I [Value.int IntKind.i64 (IntKind.i64.wrap (x + 1))] w'_1 ∧
 m [Value.int IntKind.i64 (IntKind.i64.wrap (x + 1))] w'_1 <
 m [Value.int IntKind.i64 x] w')))
 (R (Ending.returned (Value.int IntKind.i64 0)) w')))
theorem vc_xwrong (p : Option Addr) (n : Nat) (c : Nat) (q : Option Addr) (k : Nat) (d : Nat) (now : Int) (budget : Int) (w : World) (R : Ending → World → Prop) (h : VC_xwrong p n c q k d now budget w R) : Calls Try.prog 39 ([Value.slice
    p n c,
  Value.slice q k d, Value.int IntKind.i64 now, Value.int IntKind.i64 budget] : List Value).toArray w R := by
  have e : execR2 { P := Try.prog, loops := [(7, [(10, Ck.int IntKind.i64)])], pur := pur2, tails := [(12, 5)], joins := [], boxes := [] } Try.f39.results.toList R (Try.f39.body.getD .skip) (initF [Value.slice
    p n c,
  Value.slice q k d, Value.int IntKind.i64 now,
  Value.int IntKind.i64
    budget] (Try.f39.ntmps - ([Value.slice p n c, Value.slice q k d, Value.int IntKind.i64 now,
  Value.int IntKind.i64 budget] : List Value).length)) w = VC_xwrong p n c q k d now budget w R := by kernel_rfl
  have hb : Try.f39.body = some (Try.f39.body.getD .skip) := by kernel_rfl
  exact calls_of_exec2' (P := Try.prog) (fn := Try.f39) (c := Try.f39.body.getD .skip) (args := [Value.slice p n c,
  Value.slice q k d, Value.int IntKind.i64 now,
  Value.int IntKind.i64 budget]) (w := w) (R := R) pur2_ok Try.func39 hb e h

def VC_xplan (p : Option Addr) (n : Nat) (c : Nat) (q : Option Addr) (k : Nat) (d : Nat) (now : Int) (budget : Int) (w : World) (R : Ending → World → Prop) : Prop :=
 CallsS Try.prog 39 #[Value.slice p n c, Value.slice q k d, Value.int IntKind.i64 now, Value.int IntKind.i64 budget] w
 fun (e : Ending) (w' : World) =>
 ∃ (x : Int),
 e = Ending.returned (Value.int IntKind.i64 x) ∧
 KeptL [] w w' ∧
 bsp (x != 0)
 (R (Ending.returned (Value.tuple #[Value.slice none 0 0, Value.slice none 0 0, Value.int IntKind.i64 x])) w')
 (∀ (n_1 : Nat) (W : World),
 Loc w.heap.size [Blk.mk n_1 48 [] 2] w' W →
 ∃ (base : Nat),
 ∃ (xs : List Value),
 ∃ (news : List Value),
 W.ownsRow base 48 39 (Value.slice (some (Addr.mk n_1 0 none)) 0 0) 0 xs ∧
 news.length = k * 39 ∧
 SrcP W q news ∧
 0 + k ≤ 9223372036854775807 ∧
 (0 + k) * 120 ≤ 140737488355328 ∧
 base ≤ W.heap.size ∧
 ∀ (p' : Option Addr) (c' : Nat) (w' : World),
 w'.ownsRow base 48 39 (Value.slice p' (0 + k) c') (0 + k) (xs ++ news) →
 W.grownBy w' (Value.slice (some (Addr.mk n_1 0 none)) 0 0).ownBlock →
 (0 + k ≤ 0 → p' = some (Addr.mk n_1 0 none) ∧ c' = 0) →
 KeptL [] W w' ∧
 ∃ (I : List Value → World → Prop),
 ∃ (m : List Value → World → Nat),
 I [Value.slice p' (0 + k) c', Value.int IntKind.i64 1, Value.slice none 0 0] w' ∧
 ∀ (p_1 : Option Addr) (n_2 c_1 : Nat) (x : Int) (p_2 : Option Addr) (n_3 c_2 : Nat)
 (w' : World),
 I [Value.slice p_1 n_2 c_1, Value.int IntKind.i64 x, Value.slice p_2 n_3 c_2] w' →
 bsp (decide (x ≤ 3))
 (∃ (I_1 : List Value → World → Prop),
 ∃ (m_1 : List Value → World → Nat),
 I_1 [Value.int IntKind.i64 0, Value.int IntKind.i64 (-1)] w' ∧
 ∀ (x_1 x_2 : Int) (w'_1 : World),
 I_1 [Value.int IntKind.i64 x_1, Value.int IntKind.i64 x_2] w'_1 →
 bsp (decide (x_1 < (↑n_2 : Int)))
 (∀ (W : World),
 Loc w.heap.size [] w'_1 W →
 ∃ (S : World → Prop),
 S W ∧
 bsp (!decide (x < 3))
 (CallsS Try.prog 40 #[Value.slice p_1 n_2 c_1] W fun (e : Ending) (w' : World) =>
 ∃ (x_3 : Int),
 e = Ending.returned (Value.int IntKind.i64 x_3) ∧
 S w' ∧
 nn (false || decide (x_3 > budget)) p_1 fun (b o : Nat) =>
 gimp (false || decide (x_3 > budget)) (0 ≤ x_1 ∧ x_1 < (↑n_2 : Int)) ∧
 ∃ (f : Nat → Int),
 ∃ (x_4 : Int),
 ∃ (x_5 : Int),
 ∃ (p_3 : Option Addr),
 ∃ (n_4 : Nat),
 ∃ (c_3 : Nat),
 ∃ (x_6 : Int),
 ∃ (x_7 : Int),
 ∃ (p_4 : Option Addr),
 ∃ (n_5 : Nat),
 ∃ (c_4 : Nat),
 ∃ (x_8 : Bool),
 gimp (false || decide (x_3 > budget))
 (∀ (w' : World),
 S w' →
 AtL w' b (o + x_1.toNat * 39)
 (arrI IntKind.u8 f 32 0 ++ [Value.int IntKind.i64 x_4, Value.int IntKind.i64 x_5,
 Value.slice p_3 n_4 c_3, Value.int IntKind.i64 x_6,
 Value.int IntKind.i64 x_7, Value.slice p_4 n_5 c_4,
 Value.bool x_8])) ∧
 bsp (false || decide (x_3 > budget))
 (CallsS Try.prog 41
 #[Value.slice p n c, Value.slice p_1 n_2 c_1,
 Value.agg
 (arrI IntKind.u8 f 32 0 ++ [Value.int IntKind.i64 x_4, Value.int IntKind.i64 x_5,
 Value.slice p_3 n_4 c_3, Value.int IntKind.i64 x_6,
 Value.int IntKind.i64 x_7, Value.slice p_4 n_5 c_4,
 Value.bool x_8]).toArray,
 Value.int IntKind.i64 now, Value.int IntKind.i64 x]
 w' fun (e : Ending) (w' : World) =>
 ∃ (x : Bool),
 e = Ending.returned (Value.bool x) ∧
 S w' ∧
 nn (true && x && !decide (x_2 < 0)) p_1 fun (b o : Nat) =>
 gimp (true && x && !decide (x_2 < 0))
 (0 ≤ x_1 ∧ x_1 < (↑n_2 : Int)) ∧
 ∃ (f : Nat → Int),
 ∃ (x_9 : Int),
 ∃ (x_10 : Int),
 ∃ (p : Option Addr),
 ∃ (n : Nat),
 ∃ (c : Nat),
 ∃ (x_11 : Int),
 ∃ (x_12 : Int),
 ∃ (p_5 : Option Addr),
 ∃ (n_6 : Nat),
 ∃ (c_5 : Nat),
 ∃ (x_13 : Bool),
 gimp (true && x && !decide (x_2 < 0))
 (∀ (w' : World),
 S w' →
 AtL w' b (o + x_1.toNat * 39)
 (arrI IntKind.u8 f 32 0 ++ [Value.int IntKind.i64 x_9,
 Value.int IntKind.i64 x_10,
 Value.slice p n c,
 Value.int IntKind.i64 x_11,
 Value.int IntKind.i64 x_12,
 Value.slice p_5 n_6 c_5,
 Value.bool x_13])) ∧
 nn (true && x && !decide (x_2 < 0)) p_1
 fun (b o : Nat) =>
 gimp (true && x && !decide (x_2 < 0))
 (0 ≤ x_2 ∧ x_2 < (↑n_2 : Int)) ∧
 ∃ (f_1 : Nat → Int),
 ∃ (x_14 : Int),
 ∃ (x_15 : Int),
 ∃ (p_6 : Option Addr),
 ∃ (n_7 : Nat),
 ∃ (c_6 : Nat),
 ∃ (x_16 : Int),
 ∃ (x_17 : Int),
 ∃ (p_7 : Option Addr),
 ∃ (n_8 : Nat),
 ∃ (c_7 : Nat),
 ∃ (x_18 : Bool),
 gimp
 (true && x &&
 !decide (x_2 < 0))
 (∀ (w' : World),
 S w' →
 AtL w' b
 (o + x_2.toNat * 39)
 (arrI IntKind.u8 f_1 32 0 ++ [Value.int IntKind.i64
 x_14,
 Value.int IntKind.i64
 x_15,
 Value.slice p_6 n_7
 c_6,
 Value.int IntKind.i64
 x_16,
 Value.int IntKind.i64
 x_17,
 Value.slice p_7 n_8
 c_7,
 Value.bool x_18])) ∧
 bsp (true && x)
 (bsp (!decide (x_2 < 0))
 (CallsS Try.prog 42
 #[Value.agg
 (arrI IntKind.u8 f 32 0 ++ [Value.int IntKind.i64
 x_9,
 Value.int IntKind.i64
 x_10,
 Value.slice p n c,
 Value.int IntKind.i64
 x_11,
 Value.int IntKind.i64
 x_12,
 Value.slice p_5 n_6
 c_5,
 Value.bool x_13]).toArray,
 Value.agg
 (arrI IntKind.u8 f_1 32 0 ++ [Value.int IntKind.i64
 x_14,
 Value.int IntKind.i64
 x_15,
 Value.slice p_6 n_7
 c_6,
 Value.int IntKind.i64
 x_16,
 Value.int IntKind.i64
 x_17,
 Value.slice p_7 n_8
 c_7,
 Value.bool x_18]).toArray]
 w'
 fun (e : Ending)
 (w' : World) =>
 ∃ (x : Bool),
 e =
 Ending.returned
 (Value.bool x) ∧
 KeptL [] W w' ∧
 bsp
 (true &&
 (false || x))
 (I_1
 [Value.int
 IntKind.i64
 (IntKind.i64.wrap
 (x_1 + 1)),
 Value.int
 IntKind.i64 x_1]
 w' ∧
 m_1
 [Value.int
 IntKind.i64
 (IntKind.i64.wrap
 (x_1 + 1)),
 Value.int
 IntKind.i64 x_1]
 w' <
 m_1
 [Value.int
 IntKind.i64 x_1,
 Value.int
 IntKind.i64 x_2]
 w'_1)
 (I_1
 [Value.int
 IntKind.i64
 (IntKind.i64.wrap
 (x_1 + 1)),
 Value.int
 IntKind.i64 x_2]
 w' ∧
 m_1
 [Value.int
 IntKind.i64
 (IntKind.i64.wrap
 (x_1 + 1)),
 Value.int
 IntKind.i64 x_2]
 w' <
 m_1
 [Value.int
 IntKind.i64 x_1,
 Value.int
 IntKind.i64 x_2]
 w'_1))
 (KeptL [] W w' ∧
 I_1
 [Value.int IntKind.i64
 (IntKind.i64.wrap
 (x_1 + 1)),
 Value.int IntKind.i64
 x_1]
 w' ∧
 m_1
 [Value.int IntKind.i64
 (IntKind.i64.wrap
 (x_1 + 1)),
 Value.int IntKind.i64
 x_1]
 w' <
 m_1
 [Value.int IntKind.i64
 x_1,
 Value.int IntKind.i64
 x_2]
 w'_1))
 (KeptL [] W w' ∧
 I_1
 [Value.int IntKind.i64
 (IntKind.i64.wrap
 (x_1 + 1)),
 Value.int IntKind.i64
 x_2]
 w' ∧
 m_1
 [Value.int IntKind.i64
 (IntKind.i64.wrap
 (x_1 + 1)),
 Value.int IntKind.i64
 x_2]
 w' <
 m_1
 [Value.int IntKind.i64
 x_1,
 Value.int IntKind.i64
 x_2]
 w'_1))
 (S w' ∧
 nn (false && !decide (x_2 < 0)) p_1 fun (b o : Nat) =>
 True ∧
 ∃ (f : Nat → Int),
 ∃ (x : Int),
 ∃ (x : Int),
 ∃ (p : Option Addr),
 ∃ (n : Nat),
 ∃ (c : Nat),
 ∃ (x : Int),
 ∃ (x : Int),
 ∃ (p : Option Addr),
 ∃ (n : Nat),
 ∃ (c : Nat),
 ∃ (x : Bool),
 True ∧
 nn (false && !decide (x_2 < 0)) p_1
 fun (b o : Nat) =>
 True ∧
 ∃ (f : Nat → Int),
 ∃ (x : Int),
 ∃ (x : Int),
 ∃ (p : Option Addr),
 ∃ (n : Nat),
 ∃ (c : Nat),
 ∃ (x : Int),
 ∃ (x : Int),
 ∃ (p : Option Addr),
 ∃ (n : Nat),
 ∃ (c : Nat),
 ∃ (x : Bool),
 True ∧
 KeptL [] W w' ∧
 I_1
 [Value.int IntKind.i64
 (IntKind.i64.wrap
 (x_1 + 1)),
 Value.int IntKind.i64 x_2]
 w' ∧
 m_1
 [Value.int IntKind.i64
 (IntKind.i64.wrap
 (x_1 + 1)),
 Value.int IntKind.i64 x_2]
 w' <
 m_1
 [Value.int IntKind.i64 x_1,
 Value.int IntKind.i64 x_2]
 w'_1))
 (S W ∧
 nn true p_1 fun (b o : Nat) =>
 (0 ≤ x_1 ∧ x_1 < (↑n_2 : Int)) ∧
 ∃ (f : Nat → Int),
 ∃ (x_3 : Int),
 ∃ (x_4 : Int),
 ∃ (p_3 : Option Addr),
 ∃ (n_4 : Nat),
 ∃ (c_3 : Nat),
 ∃ (x_5 : Int),
 ∃ (x_6 : Int),
 ∃ (p_4 : Option Addr),
 ∃ (n_5 : Nat),
 ∃ (c_4 : Nat),
 ∃ (x_7 : Bool),
 (∀ (w' : World),
 S w' →
 AtL w' b (o + x_1.toNat * 39)
 (arrI IntKind.u8 f 32 0 ++ [Value.int IntKind.i64 x_3, Value.int IntKind.i64 x_4,
 Value.slice p_3 n_4 c_3, Value.int IntKind.i64 x_5,
 Value.int IntKind.i64 x_6, Value.slice p_4 n_5 c_4,
 Value.bool x_7])) ∧
 CallsS Try.prog 41
 #[Value.slice p n c, Value.slice p_1 n_2 c_1,
 Value.agg
 (arrI IntKind.u8 f 32 0 ++ [Value.int IntKind.i64 x_3, Value.int IntKind.i64 x_4,
 Value.slice p_3 n_4 c_3, Value.int IntKind.i64 x_5,
 Value.int IntKind.i64 x_6, Value.slice p_4 n_5 c_4,
 Value.bool x_7]).toArray,
 Value.int IntKind.i64 now, Value.int IntKind.i64 x]
 W fun (e : Ending) (w' : World) =>
 ∃ (x : Bool),
 e = Ending.returned (Value.bool x) ∧
 S w' ∧
 nn (true && x && !decide (x_2 < 0)) p_1 fun (b o : Nat) =>
 gimp (true && x && !decide (x_2 < 0))
 (0 ≤ x_1 ∧ x_1 < (↑n_2 : Int)) ∧
 ∃ (f : Nat → Int),
 ∃ (x_8 : Int),
 ∃ (x_9 : Int),
 ∃ (p : Option Addr),
 ∃ (n : Nat),
 ∃ (c : Nat),
 ∃ (x_10 : Int),
 ∃ (x_11 : Int),
 ∃ (p_5 : Option Addr),
 ∃ (n_6 : Nat),
 ∃ (c_5 : Nat),
 ∃ (x_12 : Bool),
 gimp (true && x && !decide (x_2 < 0))
 (∀ (w' : World),
 S w' →
 AtL w' b (o + x_1.toNat * 39)
 (arrI IntKind.u8 f 32 0 ++ [Value.int IntKind.i64 x_8,
 Value.int IntKind.i64 x_9,
 Value.slice p n c,
 Value.int IntKind.i64 x_10,
 Value.int IntKind.i64 x_11,
 Value.slice p_5 n_6 c_5,
 Value.bool x_12])) ∧
 nn (true && x && !decide (x_2 < 0)) p_1
 fun (b o : Nat) =>
 gimp (true && x && !decide (x_2 < 0))
 (0 ≤ x_2 ∧ x_2 < (↑n_2 : Int)) ∧
 ∃ (f_1 : Nat → Int),
 ∃ (x_13 : Int),
 ∃ (x_14 : Int),
 ∃ (p_6 : Option Addr),
 ∃ (n_7 : Nat),
 ∃ (c_6 : Nat),
 ∃ (x_15 : Int),
 ∃ (x_16 : Int),
 ∃ (p_7 : Option Addr),
 ∃ (n_8 : Nat),
 ∃ (c_7 : Nat),
 ∃ (x_17 : Bool),
 gimp
 (true && x &&
 !decide (x_2 < 0))
 (∀ (w' : World),
 S w' →
 AtL w' b (o + x_2.toNat * 39)
 (arrI IntKind.u8 f_1 32 0 ++ [Value.int IntKind.i64 x_13,
 Value.int IntKind.i64 x_14,
 Value.slice p_6 n_7 c_6,
 Value.int IntKind.i64 x_15,
 Value.int IntKind.i64 x_16,
 Value.slice p_7 n_8 c_7,
 Value.bool x_17])) ∧
 bsp (true && x)
 (bsp (!decide (x_2 < 0))
 (CallsS Try.prog 42
 #[Value.agg
 (arrI IntKind.u8 f 32 0 ++ [Value.int IntKind.i64 x_8,
 Value.int IntKind.i64 x_9,
 Value.slice p n c,
 Value.int IntKind.i64
 x_10,
 Value.int IntKind.i64
 x_11,
 Value.slice p_5 n_6 c_5,
 Value.bool x_12]).toArray,
 Value.agg
 (arrI IntKind.u8 f_1 32 0 ++ [Value.int IntKind.i64
 x_13,
 Value.int IntKind.i64
 x_14,
 Value.slice p_6 n_7 c_6,
 Value.int IntKind.i64
 x_15,
 Value.int IntKind.i64
 x_16,
 Value.slice p_7 n_8 c_7,
 Value.bool x_17]).toArray]
 w'
 fun (e : Ending)
 (w' : World) =>
 ∃ (x : Bool),
 e =
 Ending.returned
 (Value.bool x) ∧
 KeptL [] W w' ∧
 bsp (true && (false || x))
 (I_1
 [Value.int IntKind.i64
 (IntKind.i64.wrap
 (x_1 + 1)),
 Value.int IntKind.i64
 x_1]
 w' ∧
 m_1
 [Value.int IntKind.i64
 (IntKind.i64.wrap
 (x_1 + 1)),
 Value.int IntKind.i64
 x_1]
 w' <
 m_1
 [Value.int IntKind.i64
 x_1,
 Value.int IntKind.i64
 x_2]
 w'_1)
 (I_1
 [Value.int IntKind.i64
 (IntKind.i64.wrap
 (x_1 + 1)),
 Value.int IntKind.i64
 x_2]
 w' ∧
 m_1
 [Value.int IntKind.i64
 (IntKind.i64.wrap
 (x_1 + 1)),
 Value.int IntKind.i64
 x_2]
 w' <
 m_1
 [Value.int IntKind.i64
 x_1,
 Value.int IntKind.i64
 x_2]
 w'_1))
 (KeptL [] W w' ∧
 I_1
 [Value.int IntKind.i64
 (IntKind.i64.wrap
 (x_1 + 1)),
 Value.int IntKind.i64 x_1]
 w' ∧
 m_1
 [Value.int IntKind.i64
 (IntKind.i64.wrap
 (x_1 + 1)),
 Value.int IntKind.i64
 x_1]
 w' <
 m_1
 [Value.int IntKind.i64
 x_1,
 Value.int IntKind.i64
 x_2]
 w'_1))
 (KeptL [] W w' ∧
 I_1
 [Value.int IntKind.i64
 (IntKind.i64.wrap
 (x_1 + 1)),
 Value.int IntKind.i64 x_2]
 w' ∧
 m_1
 [Value.int IntKind.i64
 (IntKind.i64.wrap
 (x_1 + 1)),
 Value.int IntKind.i64 x_2]
 w' <
 m_1
 [Value.int IntKind.i64 x_1,
 Value.int IntKind.i64 x_2]
 w'_1)))
 (bsp (decide (x_2 < 0))
 (I
 [Value.slice p_1 n_2 c_1, Value.int IntKind.i64 (IntKind.i64.wrap (x + 1)),
 Value.slice p_2 n_3 c_2]
 w'_1 ∧
 m
 [Value.slice p_1 n_2 c_1, Value.int IntKind.i64 (IntKind.i64.wrap (x + 1)),
 Value.slice p_2 n_3 c_2]
 w'_1 <
 m [Value.slice p_1 n_2 c_1, Value.int IntKind.i64 x, Value.slice p_2 n_3 c_2] w')
 (nn true p_1 fun (b o : Nat) =>
 (0 ≤ x_2 ∧ x_2 < (↑n_2 : Int)) ∧
 ∃ (f : Nat → Int),
 AtL w'_1 b (o + x_2.toNat * 39)
 (arrI IntKind.u8 f 32 0) ∧
 ∀ (n : Nat) (W : World),
 Loc w.heap.size
 [Blk.mk n 96
 (arrI IntKind.u8 f 32 0 ++ [Value.int IntKind.i64 x])
 2]
 w'_1 W →
 ∃ (base : Nat),
 ∃ (xs : List Value),
 W.ownsRow base 96 33 (Value.slice p_2 n_3 c_2) n_3 xs ∧
 n_3 + 1 ≤ 9223372036854775807 ∧
 (n_3 + 1) * 40 ≤ 140737488355328 ∧
 base ≤ W.heap.size ∧
 ∀ (p' : Option Addr) (c' : Nat) (w'_2 : World),
 w'_2.ownsRow base 96 33 (Value.slice p' (n_3 + 1) c') (n_3 + 1)
 (xs ++
 (arrI IntKind.u8 f 32 0 ++ [Value.int IntKind.i64 x])) →
 W.grownBy w'_2 (Value.slice p_2 n_3 c_2).ownBlock →
 (n_3 + 1 ≤ c_2 → p' = p_2 ∧ c' = c_2) →
 KeptL [] W w'_2 ∧
 ∀ (W : World),
 Loc w.heap.size [] w'_2 W →
 ∃ (S : World → Prop),
 S W ∧
 (0 ≤ x_2 ∧ x_2 ≤ (↑c_1 : Int)) ∧
 (0 ≤ IntKind.i64.wrap (x_2 + 1) ∧
 IntKind.i64.wrap (x_2 + 1) ≤ (↑n_2 : Int)) ∧
 ∀ (n : Nat) (w1 : World),
 NewB W (Obj.cells #[] 48) n w1 →
 ∃ (base : Nat),
 ∃ (xs : List Value),
 ∃ (news : List Value),
 w1.ownsRow base 48 39
 (Value.slice (some (Addr.mk n 0 none)) 0 0) 0 xs ∧
 news.length = x_2.toNat * 39 ∧
 SrcP w1 p_1 news ∧
 0 + x_2.toNat ≤ 9223372036854775807 ∧
 (0 + x_2.toNat) * 120 ≤ 140737488355328 ∧
 base ≤ w1.heap.size ∧
 ∀ (p'_1 : Option Addr) (c'_1 : Nat) (w'_3 : World),
 w'_3.ownsRow base 48 39
 (Value.slice p'_1 (0 + x_2.toNat) c'_1)
 (0 + x_2.toNat) (xs ++ news) →
 w1.grownBy w'_3
 (Value.slice (some (Addr.mk n 0 none)) 0
 0).ownBlock →
 (0 + x_2.toNat ≤ 0 →
 p'_1 = some (Addr.mk n 0 none) ∧ c'_1 = 0) →
 ∃ (base : Nat),
 ∃ (xs : List Value),
 ∃ (news : List Value),
 w'_3.ownsRow base 48 39
 (Value.slice p'_1 (0 + x_2.toNat) c'_1)
 (0 + x_2.toNat) xs ∧
 news.length =
 (n_2 -
 (IntKind.i64.wrap (x_2 + 1)).toNat) *
 39 ∧
 SrcP w'_3
 (slA p_1 c_1
 (IntKind.i64.wrap (x_2 + 1)).toNat 39)
 news ∧
 0 + x_2.toNat +
 (n_2 -
 (IntKind.i64.wrap (x_2 + 1)).toNat) ≤
 9223372036854775807 ∧
 (0 + x_2.toNat +
 (n_2 -
 (IntKind.i64.wrap
 (x_2 + 1)).toNat)) *
 120 ≤
 140737488355328 ∧
 base ≤ w'_3.heap.size ∧
 ∀ (p'_2 : Option Addr) (c'_2 : Nat)
 (w'_4 : World),
 w'_4.ownsRow base 48 39
 (Value.slice p'_2
 (0 + x_2.toNat +
 (n_2 -
 (IntKind.i64.wrap
 (x_2 + 1)).toNat))
 c'_2)
 (0 + x_2.toNat +
 (n_2 -
 (IntKind.i64.wrap
 (x_2 + 1)).toNat))
 (xs ++ news) →
 w'_3.grownBy w'_4
 (Value.slice p'_1 (0 + x_2.toNat)
 c'_1).ownBlock →
 (0 + x_2.toNat +
 (n_2 -
 (IntKind.i64.wrap
 (x_2 + 1)).toNat) ≤
 c'_1 →
 p'_2 = p'_1 ∧ c'_2 = c'_1) →
 KeptL [] W w'_4 ∧
 I
 [Value.slice p'_2
 (0 + x_2.toNat +
 (n_2 -
 (IntKind.i64.wrap
 (x_2 + 1)).toNat))
 c'_2,
 Value.int IntKind.i64 1,
 Value.slice p' (n_3 + 1) c']
 w'_4 ∧
 m
 [Value.slice p'_2
 (0 + x_2.toNat +
 (n_2 -
 (IntKind.i64.wrap
 (x_2 + 1)).toNat))
 c'_2,
 Value.int IntKind.i64 1,
 Value.slice p' (n_3 + 1) c']
 w'_4 <
 m
 [Value.slice p_1 n_2 c_1,
 Value.int IntKind.i64 x,
 Value.slice p_2 n_3 c_2]
 w')))
 (R
 (Ending.returned
 (Value.tuple #[Value.slice p_2 n_3 c_2, Value.slice p_1 n_2 c_1, Value.int IntKind.i64 0]))
 w'))
theorem vc_xplan (p : Option Addr) (n : Nat) (c : Nat) (q : Option Addr) (k : Nat) (d : Nat) (now : Int) (budget : Int) (w : World) (R : Ending → World → Prop) (h : VC_xplan p n c q k d now budget w R) : Calls Try.prog 23 ([Value.slice
    p n c,
  Value.slice q k d, Value.int IntKind.i64 now, Value.int IntKind.i64 budget] : List Value).toArray w R := by
  have e : execR2 { P := Try.prog, loops := [(7, [(13, Ck.slice), (14, Ck.int IntKind.i64), (12, Ck.slice)]), (10, [(16, Ck.int IntKind.i64), (15, Ck.int IntKind.i64)])], pur := pur2, tails := [(12, 4), (17, 0)], joins := [], boxes := [] } Try.f23.results.toList R (Try.f23.body.getD .skip) (initF [Value.slice
    p n c,
  Value.slice q k d, Value.int IntKind.i64 now,
  Value.int IntKind.i64
    budget] (Try.f23.ntmps - ([Value.slice p n c, Value.slice q k d, Value.int IntKind.i64 now,
  Value.int IntKind.i64 budget] : List Value).length)) w = VC_xplan p n c q k d now budget w R := by kernel_rfl
  have hb : Try.f23.body = some (Try.f23.body.getD .skip) := by kernel_rfl
  exact calls_of_exec2' (P := Try.prog) (fn := Try.f23) (c := Try.f23.body.getD .skip) (args := [Value.slice p n c,
  Value.slice q k d, Value.int IntKind.i64 now,
  Value.int IntKind.i64 budget]) (w := w) (R := R) pur2_ok Try.func23 hb e h

end Go.Proofs.Ytmjanmffnblcoaa

/- Chapter 42, the reference: the contracts of rule, Check, Days, less, older, find, Protected, total, goes, Wrong. No condition but sizes. -/
namespace Go.Proofs.Ytmjanmffnblcoaa
open Go.RowKit Go.Sort Go.Maps

theorem xrule_any (r : Rl) (w : World) : Calls Try.prog 35 #[.agg #[.string r.pat, .int .i64 r.lo, .int .i64 r.hi]] w fun e w' => e = .returned (.int .i64 (rl1 r)) ∧ K0 w w' := by
  refine vc_xrule r.pat r.lo r.hi w _ ?_
  intro n W hW
  have kW : K0 w W := hW.kk rfl
  refine ⟨(rcompile_any r.pat W).mono fun e w1 ⟨k1, he⟩ => ?_⟩
  cases hc : compileR r.pat with
  | inr oe =>
    obtain ⟨o', e'⟩ := oe
    rw [hc] at he
    have hne0 := (compileR_off _ _ _ hc).2
    have e1 : rl1 r = 3 := by unfold rl1; rw [hc]
    rw [e1]
    exact ⟨_, _, _, _, _, _, he, .of_k0 k1, fun n2 => bsp_intro (fun _ W2 hW2 => ⟨rfl, (kW.trans k1).trans (hW2.kk rfl)⟩) (fun h => by exfalso; simp at h; exact hne0 h)⟩
  | inl els =>
    rw [hc] at he
    obtain ⟨p, c, rs, he, _, _⟩ := he
    have e1 : rl1 r = if r.lo < 0 ∨ r.hi < r.lo ∨ 36500 < r.hi then 2 else 0 := by unfold rl1; rw [hc]
    refine ⟨_, _, _, _, _, _, he, .of_k0 k1, fun n2 => bsp_intro (fun h => by simp at h) (fun _ => ?_)⟩
    refine ⟨r.lo, gimp_intro fun _ W2 hW2 => cell_at (hW2.cells 1 rfl) rfl, r.hi, gimp_intro fun _ W2 hW2 => cell_at (hW2.cells 1 rfl) rfl, r.hi, gimp_intro fun _ W2 hW2 => cell_at (hW2.cells 1 rfl) rfl, bsp_intro (fun h W2 hW2 => ⟨?_, (kW.trans k1).trans (hW2.kk rfl)⟩) (fun h W2 hW2 => ⟨?_, (kW.trans k1).trans (hW2.kk rfl)⟩)⟩
    · rw [e1, if_pos]; simp at h; omega
    · rw [e1, if_neg]; simp at h; omega
theorem xcheck_any (L : List Rl) (p : Option Addr) (c : Nat) (w : World) (hR : RowA rlC 3 w p L) :
    Calls Try.prog 19 #[.slice p L.length c] w fun e w' => e = .returned (.int .i64 (chkR L)) ∧ K0 w w' := by
  refine vc_xcheck p L.length c w _ ?_
  refine bsp_intro (fun h => ?_) (fun h => ?_)
  · have h : 64 < L.length := by simp at h; omega
    exact ⟨by unfold chkR; rw [if_pos h], .refl _ _⟩
  have h : L.length ≤ 64 := by simp at h; omega
  have eC : chkR L = rlF L := by unfold chkR; rw [if_neg (by omega)]
  rw [eC]
  refine ⟨fun vs w' => ∃ i : Nat, vs = [.int .i64 (i : Int)] ∧ i ≤ L.length ∧ rlF (L.take i) = 0 ∧ K0 w w', fun vs _ => (match vs with | .int _ x :: _ => L.length - x.toNat | _ => 0), ⟨0, rfl, by omega, rfl, .refl _ _⟩, ?_⟩
  rintro x w1 ⟨i, hv, hi, hok, k1⟩
  simp only [List.cons.injEq, Value.int.injEq, true_and, and_true] at hv
  subst hv
  refine bsp_intro (fun hlt => ?_) (fun hge => ?_)
  · have hlt : i < L.length := by simp at hlt; omega
    obtain ⟨r, b, o, hr, rfl, hat⟩ := (hR.k0 k1).get hlt
    show (0 ≤ (i : Int) ∧ (i : Int) < (L.length : Int)) ∧ _
    rw [Int.toNat_natCast]
    refine ⟨by omega, r.pat, r.lo, r.hi, hat, ⟨(xrule_any r w1).mono fun e w2 ⟨he, k2⟩ => ⟨_, he, .of_k0 k2, bsp_intro (fun hne => ?_) (fun hne => ?_)⟩⟩⟩
    · have hne : rl1 r ≠ 0 := by simpa using hne
      exact ⟨by rw [rlF_hit hok hr hne], k1.trans k2⟩
    · have hne : rl1 r = 0 := by simpa using hne
      exact ⟨⟨i + 1, by rw [inc64 (by omega)], hlt, rlF_next hok hr hne, k1.trans k2⟩, by rw [inc64 (by omega)]; simp only [Int.toNat_natCast]; omega⟩
  · have hi : i = L.length := by simp at hge; omega
    rw [hi, List.take_length] at hok
    exact ⟨by rw [hok], k1⟩
theorem rl1_ok : ∀ {L : List Rl}, rlF L = 0 → ∀ r ∈ L, ∃ els, compileR r.pat = .inl els
  | [], _, r, h => by cases h
  | x :: L, h, r, hr => by
    have e : rlF (x :: L) = if rl1 x ≠ 0 then rl1 x else rlF L := rfl
    rw [e] at h
    split at h
    · rename_i h1; exact absurd h h1
    · rename_i h1
      have h1 : rl1 x = 0 := by omega
      rcases List.mem_cons.1 hr with he | he
      · subst he
        unfold rl1 at h1
        split at h1
        · cases h1
        · rename_i els hc; exact ⟨els, hc⟩
      · exact rl1_ok h r he
theorem chkR_rlF {L : List Rl} (h : chkR L = 0) : rlF L = 0 := by
  unfold chkR at h
  split at h
  · cases h
  · exact h
theorem xdays_any (L : List Rl) (p : Option Addr) (c : Nat) (gs : List ByteArray) (q : Option Addr) (d : Nat) (w : World) (hR : RowA rlC 3 w p L) (h0 : chkR L = 0) (hx : StrP w q gs) (hl : gs.length ≤ 1048576) (hz : ∀ z ∈ gs, z.size ≤ 140737488355328) :
    Calls Try.prog 20 #[.slice p L.length c, .slice q gs.length d] w fun e w' => e = .returned (.tuple #[.int .i64 (daysR L gs).1, .int .i64 (daysR L gs).2]) ∧ K0 w w' := by
  have hL := chkR_len h0
  have hcomp := rl1_ok (chkR_rlF h0)
  refine vc_xdays p L.length c q gs.length d w _ ?_
  refine bsp_intro (fun h => ?_) (fun h => ?_)
  · have h : gs = [] := by simpa using h
    exact ⟨by unfold daysR; rw [if_pos h], .refl _ _⟩
  have h : ¬ gs = [] := by simpa using h
  have eD : daysR L gs = daysF L gs (0, 0) := by unfold daysR; rw [if_neg h]
  rw [eD]
  refine ⟨fun vs w' => ∃ (i : Nat) (y : Int × Int), vs = [.int .i64 (i : Int), .int .i64 y.2, .int .i64 y.1] ∧ i ≤ gs.length ∧ daysF L (gs.drop i) y = daysF L gs (0, 0) ∧ K0 w w',
    fun vs _ => (match vs with | .int _ x1 :: _ => gs.length - x1.toNat | _ => 0), ⟨0, (0, 0), rfl, by omega, rfl, .refl _ _⟩, ?_⟩
  rintro x1 x2 x3 w1 ⟨i, y, hv, hi, hd, k1⟩
  simp only [List.cons.injEq, Value.int.injEq, true_and, and_true] at hv
  obtain ⟨rfl, rfl, rfl⟩ := hv
  refine bsp_intro (fun hlt => ?_) (fun hge => ?_)
  · have hlt : i < gs.length := by simp at hlt; omega
    obtain ⟨z, b, o, hzi, hgp, hc⟩ := (hx.k0 k1).get hlt
    have hzs := hz z (List.mem_of_getElem? hzi)
    refine ⟨fun vs w' => ∃ (a : Nat) (u : Int × Int), vs = [.int .i64 (a : Int), .int .i64 u.2, .int .i64 u.1] ∧ a ≤ L.length ∧ ofR (L.take a) z = u ∧ K0 w1 w',
      fun vs _ => (match vs with | .int _ x1 :: _ => L.length - x1.toNat | _ => 0), ⟨0, (0, 36500), rfl, by omega, rfl, .refl _ _⟩, ?_⟩
    rintro a1 a2 a3 w2 ⟨a, u, hv, ha, hu, k2⟩
    simp only [List.cons.injEq, Value.int.injEq, true_and, and_true] at hv
    obtain ⟨rfl, rfl, rfl⟩ := hv
    refine bsp_intro (fun hlt2 => ?_) (fun hge2 => ?_)
    · have hlt2 : a < L.length := by simp at hlt2; omega
      obtain ⟨r, b2, o2, hr, hp, hat⟩ := (hR.k0 (k1.trans k2)).get hlt2
      refine nn_eq hp ⟨by omega, ?_⟩
      rw [Int.toNat_natCast]
      refine ⟨r.pat, by simpa using hat.cell (j := 0) rfl, ⟨(rcompile_any r.pat w2).mono fun e w3 ⟨k3, he⟩ => ?_⟩⟩
      obtain ⟨els, hcr⟩ := hcomp r (List.mem_of_getElem? hr)
      rw [hcr] at he
      obtain ⟨pp, cc, rs, he, hown, hrel⟩ := he
      have hlen : rs.length ≤ 1048576 := by
        have h1 := hrel.len
        have h2 := compileR_len hcr
        omega
      refine ⟨_, _, _, _, _, _, he, .of_k0 k3, fun n2 => nn_eq hgp ⟨by omega, z, fun W hW => ?_, fun W hW => ?_⟩⟩
      · rw [Int.toNat_natCast]
        exact ((k2.trans k3).trans (hW.kk rfl)).cell' hc (fun h => h)
      have kW : K0 w3 W := hW.kk rfl
      refine ⟨(rmatch_any r.pat pp cc rs z W (owns_kp hown kW (fun _ _ h => h)) hzs hlen).mono fun e w4 ⟨he, k4⟩ => ⟨_, he, .of_k0 k4, ?_⟩⟩
      have k24 : K0 w2 w4 := (k3.trans kW).trans k4
      have hhit : hitR r z = rmatchB rs z := by
        unfold hitR elsOf
        rw [hcr]
        exact rel_match hrel z
      have htk : ofR (L.take (a + 1)) z = if hitR r z = true then (r.lo, r.hi) else u := by rw [take_snoc hr, ofR_snoc, hu]
      refine bsp_intro (fun hm => ?_) (fun hm => ?_)
      · rw [hhit, if_pos hm] at htk
        refine nn_eq hp ⟨by omega, r.lo, fun W5 hW5 => ?_, nn_eq hp ⟨by omega, r.hi, fun W5 hW5 => ?_, fun W5 hW5 => ?_⟩⟩
        · exact (k24.trans (hW5.kk rfl)).cell' (hat.cell (j := 1) rfl) (fun h => h)
        · exact (k24.trans (hW5.kk rfl)).cell' (hat.cell (j := 2) rfl) (fun h => h)
        · exact ⟨⟨a + 1, (r.lo, r.hi), by rw [inc64 (by omega)], hlt2, htk, (k2.trans k24).trans (hW5.kk rfl)⟩, by rw [inc64 (by omega)]; simp only [Int.toNat_natCast]; omega⟩
      · rw [hhit, if_neg (by simp [hm])] at htk
        exact ⟨⟨a + 1, u, by rw [inc64 (by omega)], hlt2, htk, k2.trans k24⟩, by rw [inc64 (by omega)]; simp only [Int.toNat_natCast]; omega⟩
    · have ha : a = L.length := by simp at hge2; omega
      rw [ha, List.take_length] at hu
      refine ⟨⟨i + 1, (max y.1 (ofR L z).1, max y.2 (ofR L z).2), ?_, hlt, ?_, k1.trans k2⟩, by rw [inc64 (by omega)]; simp only [Int.toNat_natCast]; omega⟩
      · rw [inc64 (by omega), hu]
        congr 2
        · simp only [Value.int.injEq, true_and]; split <;> omega
        · simp only [List.cons.injEq, Value.int.injEq, true_and, and_true]; split <;> omega
      · rw [← hd]
        have : gs.drop i = z :: gs.drop (i + 1) := by
          rw [List.drop_eq_getElem_cons hlt]
          rw [List.getElem?_eq_getElem hlt] at hzi
          simp at hzi
          rw [hzi]
        rw [this, daysF_cons]
  · have hi : i = gs.length := by simp at hge; omega
    rw [hi, List.drop_length] at hd
    exact ⟨by rw [← hd]; rfl, k1⟩
theorem xless_any (f g : Nat → Int) (w : World) : Calls Try.prog 67 #[.agg (arrI .u8 f 32 0).toArray, .agg (arrI .u8 g 32 0).toArray] w fun e w' => e = .returned (.bool (decide (cmpIs (idI f) (idI g) < 0))) ∧ K0 w w' := by
  refine vc_xless f g w _ ?_
  intro n n1 W hW
  have kW : K0 w W := hW.kk rfl
  have hg := hW.cells 0 rfl
  have hf := hW.cells 1 rfl
  refine ⟨fun vs w' => ∃ i : Nat, vs = [.int .i64 (i : Int)] ∧ i ≤ 32 ∧ (∀ j, j < i → f j = g j) ∧ K0 W w', fun vs _ => (match vs with | .int _ x :: _ => 32 - x.toNat | _ => 0), ⟨0, rfl, by omega, (fun j h => by omega), .refl _ _⟩, ?_⟩
  rintro x w1 ⟨i, hv, hi, heq, k1⟩
  simp only [List.cons.injEq, Value.int.injEq, true_and, and_true] at hv
  subst hv
  refine bsp_intro (fun hlt => ?_) (fun hge => ?_)
  · have hlt : i < 32 := by simp at hlt; omega
    intro W2 hW2
    rw [Int.toNat_natCast]
    have k2 : K0 W W2 := k1.trans (hW2.kk rfl)
    have af : ∀ {wx : World}, K0 W wx → wx.cell? ⟨n, 0 + i, none⟩ = some (.int .u8 (f i)) := fun hk => (AtL_block (hk.blk hf (fun h => h)) rfl : AtL _ n 0 (idL f)).cell (by rw [arrI_get .u8 f 32 0 i hlt, Nat.zero_add])
    have ag : ∀ {wx : World}, K0 W wx → wx.cell? ⟨n1, 0 + i, none⟩ = some (.int .u8 (g i)) := fun hk => (AtL_block (hk.blk hg (fun h => h)) rfl : AtL _ n1 0 (idL g)).cell (by rw [arrI_get .u8 g 32 0 i hlt, Nat.zero_add])
    refine ⟨by omega, f i, af k2, by omega, g i, ag k2, bsp_intro (fun hne W3 hW3 => ?_) (fun hne => ?_)⟩
    · have hne : f i ≠ g i := by simpa using hne
      have k3 : K0 W W3 := k2.trans (hW3.kk rfl)
      refine ⟨by omega, f i, af k3, by omega, g i, ag k3, ?_, kW.trans k3⟩
      rw [cmpIs_id hlt heq hne]
      congr 2
      unfold cI
      rw [decide_eq_decide]
      by_cases h : f i < g i
      · simp [h]
      · have : g i < f i := by omega
        simp [h, this]
    · have he : f i = g i := by simpa using hne
      refine ⟨⟨i + 1, by rw [inc64 (by omega)], hlt, fun j hj => ?_, k2⟩, by rw [inc64 (by omega)]; simp only [Int.toNat_natCast]; omega⟩
      rcases Nat.lt_or_ge j i with h | h
      · exact heq j h
      · have : j = i := by omega
        subst this
        exact he
  · have hi : i = 32 := by simp at hge; omega
    subst hi
    exact ⟨by rw [cmpIs_same heq]; rfl, kW.trans k1⟩
theorem cfJ_lt (x y : Int × List Int) : decide (cfJ x y < 0) = (decide (x.1 < y.1) || (x.1 == y.1) && decide (cmpIs x.2 y.2 < 0)) := by
  unfold cfJ
  by_cases h1 : x.1 < y.1
  · simp [h1]
  · by_cases h2 : y.1 < x.1
    · have : ¬ x.1 = y.1 := by omega
      simp [h1, h2, this]
    · have e1 : x.1 = y.1 := by omega
      simp [e1]
theorem xolder_any (x y : AX) (w : World) : Calls Try.prog 42 #[.agg (axC x).toArray, .agg (axC y).toArray] w fun e w' => e = .returned (.bool (decide (cfJ (x.ar, idI x.id) (y.ar, idI y.id) < 0))) ∧ K0 w w' := by
  refine vc_xolder x.id x.dt x.ar x.gp x.gs.length x.gc x.by_ x.ct x.hp x.hs.length x.hc x.wd y.id y.dt y.ar y.gp y.gs.length y.gc y.by_ y.ct y.hp y.hs.length y.hc y.wd w _ ?_
  intro n n1
  rw [cfJ_lt]
  refine ⟨x.ar, gimp_intro fun _ W hW => cell_at (hW.cells 1 rfl) rfl, y.ar, gimp_intro fun _ W hW => cell_at (hW.cells 0 rfl) rfl, x.id, gimp_intro fun _ W hW => AtL_block (hW.cells 1 rfl) rfl, y.id, gimp_intro fun _ W hW => AtL_block (hW.cells 0 rfl) rfl, fun W hW => ?_⟩
  have kW : K0 w W := hW.kk rfl
  refine bsp_intro (fun h1 => bsp_intro (fun h2 => ?_) (fun h2 => ?_)) (fun h1 => ?_)
  · have h1 : decide (x.ar < y.ar) = false := by simpa using h1
    refine ⟨(xless_any x.id y.id W).mono fun e w1 ⟨he, k1⟩ => ⟨_, he, .of_k0 k1, ?_, kW.trans k1⟩⟩
    simp only [h1, h2, Bool.false_or, Bool.true_and]
  · have h1 : decide (x.ar < y.ar) = false := by simpa using h1
    refine ⟨.refl _ _, ?_, kW⟩
    simp only [h1, h2, Bool.false_or, Bool.false_and]
  · have h1 : decide (x.ar < y.ar) = true := by simpa using h1
    refine ⟨.refl _ _, ?_, kW⟩
    simp only [h1, Bool.true_or]
theorem idEq3 {l l' : List Int} (hl : l.length = 32) (hb : ∀ x ∈ l, 0 ≤ x ∧ x ≤ 255) (hl' : l'.length = 32) (hb' : ∀ x ∈ l', 0 ≤ x ∧ x ≤ 255) : EqP Try.prog 37 (byA l) (byA l') (decide (l = l')) :=
  eq_bytes Try.underlying37 Try.underlying5 (by kernel_rfl) (by kernel_rfl) (by kernel_rfl) (by decide +kernel) (by kernel_rfl) (by kernel_rfl) hl hb hl' hb'
theorem AtL.pre {w : World} {b o : Nat} {l1 l2 : List Value} (h : AtL w b o (l1 ++ l2)) : AtL w b o l1 := h.left
theorem xfind_any (l : List AX) (p : Option Addr) (c : Nat) (f : Nat → Int) (w : World) (hR : RowA axC 39 w p l) (hl : l.length ≤ 1048576) (hb : ∀ x ∈ l, ∀ j, 0 ≤ x.id j ∧ x.id j ≤ 255) (hf : ∀ j, 0 ≤ f j ∧ f j ≤ 255) :
    Calls Try.prog 46 #[.slice p l.length c, .agg (arrI .u8 f 32 0).toArray] w fun e w' => e = .returned (.int .i64 (fiR (fun y : AX => decide (idI y.id = idI f)) l)) ∧ K0 w w' := by
  refine vc_xfind p l.length c f w _ ?_
  intro n1 W hW
  have kW : K0 w W := hW.kk rfl
  refine ⟨fun vs w' => ∃ i : Nat, vs = [.int .i64 (i : Int)] ∧ i ≤ l.length ∧ (∀ j z, j < i → l[j]? = some z → (fun y : AX => decide (idI y.id = idI f)) z = false) ∧ K0 w w',
    fun vs _ => (match vs with | .int _ x :: _ => l.length - x.toNat | _ => 0), ⟨0, rfl, by omega, (fun j z h => by omega), kW⟩, ?_⟩
  rintro x w1 ⟨i, hv, hi, hno, k1⟩ hL1
  simp only [List.cons.injEq, Value.int.injEq, true_and, and_true] at hv
  subst hv
  refine bsp_intro (fun hlt => ?_) (fun hge => ?_)
  · have hlt : i < l.length := by simp at hlt; omega
    obtain ⟨y, b, o, hy, rfl, hat⟩ := (hR.k0 k1).get hlt
    show (0 ≤ (i : Int) ∧ (i : Int) < (l.length : Int)) ∧ _
    rw [Int.toNat_natCast]
    refine ⟨by omega, y.id, fun W2 hW2 => (hat.k0 (hW2.kk rfl)).pre, decide (idI y.id = idI f), idEq3 (idI_len _) (idI_bd (hb y (List.mem_of_getElem? hy))) (idI_len _) (idI_bd hf), bsp_intro (fun hg W2 hW2 => ?_) (fun hg W2 hW2 => ?_)⟩
    · exact ⟨by unfold fiR; rw [fidx_hit hno hy hg], k1.trans (hW2.kk rfl)⟩
    · refine ⟨⟨i + 1, by rw [inc64 (by omega)], hlt, fun j z hj hz => ?_, k1.trans (hW2.kk rfl)⟩, by rw [inc64 (by omega)]; simp only [Int.toNat_natCast]; omega⟩
      rcases Nat.lt_or_ge j i with h | h
      · exact hno j z h hz
      · have : j = i := by omega
        subst this
        rw [hy] at hz
        simp at hz
        subst hz
        exact hg
  · have hi : i = l.length := by simp at hge; omega
    subst hi
    exact ⟨by unfold fiR; rw [fidx_miss hno], k1⟩

end Go.Proofs.Ytmjanmffnblcoaa

/- Chapter 42, the reference: the contracts of Protected, total, goes, Wrong. No condition but sizes. -/
namespace Go.Proofs.Ytmjanmffnblcoaa
open Go.RowKit Go.Sort Go.Maps

theorem fixB_eq (now : Int) (y : AX) : fixB now y.pl = (permC y.ct || ((y.ct != 0 || decide ((y.hs.length : Int) > 0)) && decide (now ≤ y.dt + 20160))) := by
  unfold fixB
  have e : (!(y.pl.holds).isEmpty) = decide ((y.hs.length : Int) > 0) := by
    show (!((y.hs.map idI).isEmpty)) = _
    cases y.hs <;> simp
  rw [e]
  rfl
theorem RowA.take {α : Type} {f : α → List Value} {L : Nat} {w : World} {p : Option Addr} {l : List α} (h : RowA f L w p l) (m : Nat) : RowA f L w p (l.take m) := fun k y hy => by
  rw [List.getElem?_take] at hy
  split at hy
  · exact h k y hy
  · cases hy
theorem fiR_here (l : List AX) (f : Nat → Int) : decide (fiR (fun y : AX => decide (idI y.id = idI f)) l ≥ 0) = hereB (l.map AX.pl) (idI f) := by
  rw [fiR_any]
  unfold hereB
  rw [List.any_map]
  rfl
theorem xprot_any (l : List AX) (p : Option Addr) (c : Nat) (x : AX) (now : Int) (w : World) (hR : RowA axC 39 w p l) (hl : l.length ≤ 1048576) (hb : ∀ y ∈ l, ∀ j, 0 ≤ y.id j ∧ y.id j ≤ 255) (hx : AXR w x) (hok : ArOK x) :
    Calls Try.prog 27 #[.slice p l.length c, .agg (axC x).toArray, .int .i64 now] w fun e w' => e = .returned (.bool (protB now (l.map AX.pl) x.pl)) ∧ K0 w w' := by
  refine vc_xprot p l.length c x.id x.dt x.ar x.gp x.gs.length x.gc x.by_ x.ct x.hp x.hs.length x.hc x.wd now w _ ?_
  intro n1
  have hf := fixB_eq now x
  have hdt := hok.dt
  have hP : protB now (l.map AX.pl) x.pl = (fixB now x.pl || x.hs.any fun h => hereB (l.map AX.pl) (idI h)) := by
    unfold protB
    congr 1
    show (x.hs.map idI).any _ = _
    rw [List.any_map]; rfl
  refine bsp_intro (fun h1 W hW => ⟨?_, hW.kk rfl⟩) (fun h1 => ?_)
  · rw [hP, hf, h1, Bool.true_or, Bool.true_or]
  refine ⟨x.hp, x.hs.length, x.hc, gimp_intro fun _ W hW => cell_at (hW.cells 0 rfl) rfl, x.dt, gimp_intro fun _ W hW => cell_at (hW.cells 0 rfl) rfl, ?_⟩
  rw [wr64 (x := x.dt + 20160) (by omega) (by omega)]
  refine bsp_intro (fun h2 W hW => ⟨?_, hW.kk rfl⟩) (fun h2 W hW => ?_)
  · rw [hP, hf, h2, Bool.or_true, Bool.true_or]
  have hfF : fixB now x.pl = false := by rw [hf, h1, h2]; rfl
  rw [hfF, Bool.false_or] at hP
  have kW : K0 w W := hW.kk rfl
  refine ⟨fun vs w' => ∃ i : Nat, vs = [.int .i64 (i : Int)] ∧ i ≤ x.hs.length ∧ (∀ j h, j < i → x.hs[j]? = some h → hereB (l.map AX.pl) (idI h) = false) ∧ K0 w w',
    fun vs _ => (match vs with | .int _ a :: _ => x.hs.length - a.toNat | _ => 0), ⟨0, rfl, by omega, (fun j z h => by omega), kW⟩, ?_⟩
  rintro a w1 ⟨i, hv, hi, hno, k1⟩ hL1
  simp only [List.cons.injEq, Value.int.injEq, true_and, and_true] at hv
  subst hv
  refine bsp_intro (fun hlt => ?_) (fun hge => ?_)
  · have hlt : i < x.hs.length := by simp at hlt; omega
    obtain ⟨h, b, o, hy, hhp, hat⟩ := (hx.hs.k0 k1).get hlt
    have hhl := List.mem_of_getElem? hy
    refine nn_eq hhp ⟨by omega, h, by rw [Int.toNat_natCast]; exact hat, ⟨(xfind_any l p c h w1 (hR.k0 k1) hl hb (hok.hs h hhl)).mono fun e w2 ⟨he, k2⟩ => ⟨_, he, .of_k0 k2, ?_⟩⟩⟩
    rw [fiR_here]
    refine bsp_intro (fun hh => ⟨?_, k1.trans k2⟩) (fun hh => ?_)
    · rw [hP]
      congr 2
      exact (List.any_eq_true.2 ⟨h, hhl, hh⟩).symm
    · refine ⟨⟨i + 1, by rw [inc64 (by have := hok.hl; omega)], hlt, fun j z hj hz => ?_, k1.trans k2⟩, by rw [inc64 (by have := hok.hl; omega)]; simp only [Int.toNat_natCast]; omega⟩
      rcases Nat.lt_or_ge j i with h' | h'
      · exact hno j z h' hz
      · have : j = i := by omega
        subst this
        rw [hy] at hz
        simp at hz
        subst hz
        exact hh
  · have hi : i = x.hs.length := by simp at hge; omega
    subst hi
    refine ⟨?_, k1⟩
    rw [hP]
    congr 2
    refine (List.any_eq_false.2 fun h hh => ?_).symm
    obtain ⟨j, hj, e⟩ := List.getElem_of_mem hh
    rw [hno j h hj (by rw [List.getElem?_eq_getElem hj, e])]
    decide
theorem xtotal_any (l : List AX) (p : Option Addr) (c : Nat) (w : World) (hR : RowA axC 39 w p l) (hl : l.length ≤ 1000) (hb : ∀ y ∈ l, 0 ≤ y.by_ ∧ y.by_ ≤ 1099511627776) :
    Calls Try.prog 40 #[.slice p l.length c] w fun e w' => e = .returned (.int .i64 (sumB l)) ∧ K0 w w' := by
  refine vc_xtotal p l.length c w _ ?_
  refine ⟨fun vs w' => ∃ i : Nat, vs = [.int .i64 (i : Int), .int .i64 (sumB (l.take i))] ∧ i ≤ l.length ∧ K0 w w',
    fun vs _ => (match vs with | .int _ a :: _ => l.length - a.toNat | _ => 0), ⟨0, rfl, by omega, .refl _ _⟩, ?_⟩
  rintro a s w1 ⟨i, hv, hi, k1⟩
  simp only [List.cons.injEq, Value.int.injEq, true_and, and_true] at hv
  obtain ⟨rfl, rfl⟩ := hv
  refine bsp_intro (fun hlt => ?_) (fun hge => ?_)
  · have hlt : i < l.length := by simp at hlt; omega
    obtain ⟨y, b, o, hy, hp, hat⟩ := (hR.k0 k1).get hlt
    have h1 := sumB_bd (l.take i) (fun x hx => hb x (List.mem_of_mem_take hx))
    have h2 := hb y (List.mem_of_getElem? hy)
    rw [List.length_take] at h1
    refine nn_eq hp ⟨by omega, y.by_, by rw [Int.toNat_natCast]; exact hat.cell (j := 35) rfl, ⟨i + 1, ?_, hlt, k1⟩, by rw [inc64 (by omega)]; simp only [Int.toNat_natCast]; omega⟩
    rw [inc64 (by omega), take_snoc hy, sumB_snoc, wr64 (by omega) (by omega)]
  · have hi : i = l.length := by simp at hge; omega
    rw [hi, List.take_length]
    exact ⟨rfl, k1⟩
/-- Whether an article goes in a step of the reference (the budget aside). -/
def goR (L : List Rl) (now : Int) (here : List Ar) (k : Nat) (a : Ar) : Bool := !protB now here a && (match k with | 1 => a.wd && a.ct == 0 | 2 => overB L now a | _ => mayB L now a)
theorem xgoes_any (L : List Rl) (p : Option Addr) (c : Nat) (l : List AX) (q : Option Addr) (d : Nat) (x : AX) (now : Int) (k : Nat) (w : World) (hR : RowA rlC 3 w p L) (h0 : chkR L = 0) (hA : RowA axC 39 w q l) (hl : l.length ≤ 1048576) (hb : ∀ y ∈ l, ∀ j, 0 ≤ y.id j ∧ y.id j ≤ 255)
    (hx : AXR w x) (hok : ArOK x) (hz : ∀ z ∈ x.gs, z.size ≤ 140737488355328) (hk : k = 1 ∨ k = 2 ∨ k = 3) :
    Calls Try.prog 41 #[.slice p L.length c, .slice q l.length d, .agg (axC x).toArray, .int .i64 now, .int .i64 (k : Int)] w fun e w' => e = .returned (.bool (goR L now (l.map AX.pl) k x.pl)) ∧ K0 w w' := by
  refine vc_xgoes p L.length c q l.length d x.id x.dt x.ar x.gp x.gs.length x.gc x.by_ x.ct x.hp x.hs.length x.hc x.wd now (k : Int) w _ ?_
  intro n1 W hW
  have kW : K0 w W := hW.kk rfl
  refine ⟨(xprot_any l q d x now W (hA.k0 kW) hl hb (hx.k0 kW) hok).mono fun e w1 ⟨he, k1⟩ => ⟨_, he, .of_k0 k1, bsp_intro (fun hp => ⟨?_, kW.trans k1⟩) (fun hp => ?_)⟩⟩
  · unfold goR
    rw [hp]; rfl
  have hn1 := k1.blk (hW.cells 0 rfl) (fun h => h)
  refine ⟨(xdays_any L p c x.gs x.gp x.gc w1 (hR.k0 (kW.trans k1)) h0 (hx.gs.k0 (kW.trans k1)) hok.gl hz).mono fun e w2 ⟨he, k2⟩ => ⟨_, _, he, .of_k0 k2, ?_⟩⟩
  have kw2 := (kW.trans k1).trans k2
  have hd := daysR_bd (rlF_all (chkR_rlF h0)) x.gs
  have har := hok.ar
  refine bsp_intro (fun h1 => ?_) (fun h1 => bsp_intro (fun h2 => ?_) (fun h2 => ?_))
  · have h1 : k = 1 := by simp at h1; omega
    subst h1
    refine ⟨x.ct, gimp_intro fun _ => cell_at (k2.blk hn1 (fun h => h)) rfl, ?_, kw2⟩
    unfold goR
    rw [hp]; rfl
  · have h2 : k = 2 := by simp at h2; omega
    subst h2
    refine ⟨?_, kw2⟩
    rw [wr64 (x := (daysR L x.gs).2 * 1440) (by omega) (by omega), wr64 (by omega) (by omega)]
    unfold goR
    rw [hp]; rfl
  · have h3 : k = 3 := by simp at h1 h2; omega
    subst h3
    refine ⟨?_, kw2⟩
    rw [wr64 (x := (daysR L x.gs).1 * 1440) (by omega) (by omega), wr64 (by omega) (by omega)]
    unfold goR
    rw [hp]; rfl
theorem goR_goB {L : List Rl} {now budget : Int} {here : List Ar} {k : Nat} (hk : k = 1 ∨ k = 2 ∨ k = 3) (a : Ar) : goB L now budget here k a = ((decide (k < 3) || decide (totS here > budget)) && goR L now here k a) := by
  unfold goB goR reasB
  rcases hk with rfl | rfl | rfl
  · simp [Bool.and_comm]
  · simp [Bool.and_comm]
  · simp only [Nat.lt_irrefl, decide_false, Bool.false_or]
    cases decide (budget < totS here) <;> simp [Bool.and_comm]
theorem arBad_ref (a : Ar) : (decide (a.date < 0) || decide (a.date > 105190559) || decide (a.ar < 0) || decide (a.ar > 105190559) || decide (a.by_ < 0) || decide (a.by_ > 1099511627776) || decide (a.ct < 0) || decide (a.ct > 5)) = arBad a := by
  unfold arBad minB
  rw [Bool.eq_iff_iff]
  simp
  omega
set_option maxHeartbeats 1000000 in
theorem xwrong_any (L : List Rl) (p : Option Addr) (c : Nat) (l : List AX) (q : Option Addr) (d : Nat) (now budget : Int) (w : World) (hR : RowA rlC 3 w p L) (hA : RowA axC 39 w q l) (hl : l.length ≤ 1000) (hld : l.length ≤ d) (hb : ∀ y ∈ l, ∀ j, 0 ≤ y.id j ∧ y.id j ≤ 255) :
    Calls Try.prog 39 #[.slice p L.length c, .slice q l.length d, .int .i64 now, .int .i64 budget] w fun e w' => e = .returned (.int .i64 (planErr L (l.map AX.pl) now budget)) ∧ K0 w w' := by
  refine vc_xwrong p L.length c q l.length d now budget w _ ?_
  refine ⟨(xcheck_any L p c w hR).mono fun e w1 ⟨he, k1⟩ => ⟨_, he, .of_k0 k1, bsp_intro (fun h0 => ?_) (fun h0 => ?_)⟩⟩
  · have h0 : chkR L ≠ 0 := by simpa using h0
    exact ⟨by unfold planErr; rw [if_pos h0], k1⟩
  have h0 : chkR L = 0 := by simpa using h0
  have eN : (decide (now < 0) || decide (now > 105190559) || decide (budget < 0)) = (!minB now || decide (budget < 0)) := by
    unfold minB
    rw [Bool.eq_iff_iff]
    simp
  rw [eN]
  refine bsp_intro (fun h1 => ?_) (fun h1 => ?_)
  · exact ⟨by unfold planErr; rw [if_neg (by simpa using h0), if_pos h1], k1⟩
  have eP : planErr L (l.map AX.pl) now budget = errA [] (l.map AX.pl) := by unfold planErr; rw [if_neg (by simpa using h0), if_neg (by simpa using h1)]
  rw [eP]
  refine ⟨fun vs w' => ∃ i : Nat, vs = [.int .i64 (i : Int)] ∧ i ≤ l.length ∧ errA ((l.take i).map fun y => idI y.id) ((l.drop i).map AX.pl) = errA [] (l.map AX.pl) ∧ K0 w w',
    fun vs _ => (match vs with | .int _ x :: _ => l.length - x.toNat | _ => 0), ⟨0, rfl, by omega, rfl, k1⟩, ?_⟩
  rintro x w2 ⟨i, hv, hi, he, k2⟩
  simp only [List.cons.injEq, Value.int.injEq, true_and, and_true] at hv
  subst hv
  refine bsp_intro (fun hlt => ?_) (fun hge => ?_)
  · have hlt : i < l.length := by simp at hlt; omega
    obtain ⟨y, b, o, hy, hq, hat⟩ := (hA.k0 k2).get hlt
    have hyl := List.mem_of_getElem? hy
    have hdr : l.drop i = y :: l.drop (i + 1) := by
      rw [List.drop_eq_getElem_cons hlt]
      rw [List.getElem?_eq_getElem hlt] at hy
      simp at hy
      rw [hy]
    rw [hdr, List.map_cons] at he
    have he' : ∀ seen, errA seen (y.pl :: (l.drop (i + 1)).map AX.pl) = if arBad y.pl = true then 2 else if y.pl.id ∈ seen then 7 else errA (seen ++ [y.pl.id]) ((l.drop (i + 1)).map AX.pl) := fun _ => rfl
    rw [he'] at he
    refine nn_eq hq ⟨by omega, y.id, y.dt, y.ar, y.gp, y.gs.length, y.gc, y.by_, y.ct, y.hp, y.hs.length, y.hc, y.wd, by rw [Int.toNat_natCast]; exact hat, fun n2 => ?_⟩
    refine ⟨y.dt, gimp_intro fun _ W hW => cell_at (hW.cells 0 rfl) rfl, y.ar, gimp_intro fun _ W hW => cell_at (hW.cells 0 rfl) rfl, y.ar, gimp_intro fun _ W hW => cell_at (hW.cells 0 rfl) rfl, y.by_, gimp_intro fun _ W hW => cell_at (hW.cells 0 rfl) rfl, y.by_, gimp_intro fun _ W hW => cell_at (hW.cells 0 rfl) rfl, y.ct, gimp_intro fun _ W hW => cell_at (hW.cells 0 rfl) rfl, y.ct, gimp_intro fun _ W hW => cell_at (hW.cells 0 rfl) rfl, ?_⟩
    have hbr := arBad_ref y.pl
    refine bsp_intro (fun hbad W hW => ?_) (fun hgood => ⟨by omega, fun W hW => ?_⟩)
    · have hbad : arBad y.pl = true := by rw [← hbr]; exact hbad
      rw [if_pos hbad] at he
      exact ⟨by rw [← he], k2.trans (hW.kk rfl)⟩
    · have hgood : arBad y.pl = false := by rw [← hbr]; exact hgood
      rw [if_neg (by simp [hgood])] at he
      have kW : K0 w2 W := hW.kk rfl
      have hlen : (l.take i).length = i := by rw [List.length_take]; omega
      rw [Int.toNat_natCast]
      have hfind := xfind_any (l.take i) q d y.id W ((hA.k0 (k2.trans kW)).take i) (by omega) (fun z hz => hb z (List.mem_of_mem_take hz)) (hb y hyl)
      rw [hlen] at hfind
      refine ⟨hfind.mono fun e w3 ⟨hr, k3⟩ => ⟨_, hr, .of_k0 k3, ?_⟩⟩
      rw [fiR_here]
      have hmem : hereB ((l.take i).map AX.pl) (idI y.id) = decide (y.pl.id ∈ (l.take i).map fun z => idI z.id) := by
        unfold hereB
        rw [Bool.eq_iff_iff, List.any_eq_true, decide_eq_true_iff]
        constructor
        · rintro ⟨a, ha, he⟩
          obtain ⟨z, hz, rfl⟩ := List.mem_map.1 ha
          exact List.mem_map.2 ⟨z, hz, of_decide_eq_true he⟩
        · intro h
          obtain ⟨z, hz, he⟩ := List.mem_map.1 h
          exact ⟨z.pl, List.mem_map.2 ⟨z, hz, rfl⟩, decide_eq_true he⟩
      rw [hmem]
      refine bsp_intro (fun hin => ?_) (fun hin => ?_)
      · rw [if_pos (of_decide_eq_true hin)] at he
        exact ⟨by rw [← he], (k2.trans kW).trans k3⟩
      · rw [if_neg (of_decide_eq_false hin)] at he
        refine ⟨⟨i + 1, by rw [inc64 (by omega)], hlt, ?_, (k2.trans kW).trans k3⟩, by rw [inc64 (by omega)]; simp only [Int.toNat_natCast]; omega⟩
        rw [take_snoc hy, List.map_append]
        exact he
  · have hi : i = l.length := by simp at hge; omega
    rw [hi, List.drop_length] at he
    exact ⟨by rw [← he]; rfl, k2⟩

end Go.Proofs.Ytmjanmffnblcoaa

/- Chapter 42, the reference: the contract of Plan. No condition but sizes. -/
namespace Go.Proofs.Ytmjanmffnblcoaa
open Go.RowKit Go.Sort Go.Maps

theorem erase_wo {α : Type} (f : α → Ar) : ∀ {l : List α} {i : Nat} {y : α}, (l.map fun x => (f x).id).Nodup → l[i]? = some y → without (l.map f) (f y).id = (l.eraseIdx i).map f
  | [], i, y, _, h => by simp at h
  | x :: l, 0, y, hd, h => by
    simp at h
    subst h
    rw [List.map_cons, List.nodup_cons] at hd
    unfold without
    rw [List.map_cons, List.filter_cons, if_neg (by simp)]
    show _ = l.map f
    refine List.filter_eq_self.2 fun b hb => ?_
    obtain ⟨z, hz, rfl⟩ := List.mem_map.1 hb
    have : ¬ (f z).id = (f x).id := fun e => hd.1 (List.mem_map.2 ⟨z, hz, e⟩)
    simp [this]
  | x :: l, i + 1, y, hd, h => by
    have h' : l[i]? = some y := by simpa using h
    rw [List.map_cons, List.nodup_cons] at hd
    have hne : ¬ (f x).id = (f y).id := fun e => hd.1 (List.mem_map.2 ⟨y, List.mem_of_getElem? h', e.symm⟩)
    have ih := erase_wo f hd.2 h'
    unfold without at ih ⊢
    rw [List.map_cons, List.filter_cons, if_pos (by simp [hne]), ih]
    rfl
theorem sumB_tot (l : List AX) : sumB l = totS (l.map AX.pl) := by
  unfold sumB totS
  rw [List.map_map]; rfl
theorem pickR_hit {L : List Rl} {now budget : Int} {here : List Ar} {k : Nat} {a : Ar} (h1 : 1 ≤ k) (h3 : k ≤ 3) (hno : ∀ j, 1 ≤ j → j < k → bestF (goB L now budget here j) here none = none) (h : bestF (goB L now budget here k) here none = some a) : pickR L now budget here = some (a, k) := by
  unfold pickR
  rcases (show k = 1 ∨ k = 2 ∨ k = 3 by omega) with rfl | rfl | rfl
  · rw [h]
  · rw [hno 1 (by omega) (by omega), h]
  · rw [hno 1 (by omega) (by omega), hno 2 (by omega) (by omega), h]
theorem pickR_miss {L : List Rl} {now budget : Int} {here : List Ar} (hno : ∀ j, 1 ≤ j → j < 4 → bestF (goB L now budget here j) here none = none) : pickR L now budget here = none := by
  unfold pickR
  rw [hno 1 (by omega) (by omega), hno 2 (by omega) (by omega), hno 3 (by omega) (by omega)]
theorem axC_flat (l : List AX) : (l.flatMap axC).length = l.length * 39 := len_flat axC 39 l (fun _ _ => rfl)
theorem src_row {w : World} {p : Option Addr} {l : List AX} (h : RowA axC 39 w p l) : SrcP w p (l.flatMap axC) := by
  refine ⟨fun j u hj => ?_, fun u hu => by obtain ⟨z, _, hz⟩ := List.mem_flatMap.1 hu; exact axC_one z u hz⟩
  have hlt := (List.getElem?_eq_some_iff.1 hj).1
  rw [axC_flat] at hlt
  obtain ⟨y, b, o, hy, hp, hat⟩ := h.get (k := j / 39) (by omega)
  have h1 := flat_get axC 39 l (j / 39) y (j % 39) (fun _ _ => rfl) hy (by omega)
  rw [show j / 39 * 39 + j % 39 = j by omega, hj] at h1
  refine ⟨b, o, hp, ?_⟩
  have := hat.cell h1.symm
  rwa [show o + j / 39 * 39 + j % 39 = o + j by omega] at this

set_option maxRecDepth 100000 in
set_option maxHeartbeats 4000000 in
theorem xplan_any (L : List Rl) (p : Option Addr) (c : Nat) (l : List AX) (q : Option Addr) (d : Nat) (now budget : Int) (w : World) (hR : RowA rlC 3 w p L) (hA : RowA axC 39 w q l) (hX : ∀ x ∈ l, AXR w x) (hsz : ∀ x ∈ l, ArSz x) (hz : ∀ x ∈ l, ∀ z ∈ x.gs, z.size ≤ 140737488355328) (hl : l.length ≤ 1000) (hld : l.length ≤ d) :
    Calls Try.prog 23 #[.slice p L.length c, .slice q l.length d, .int .i64 now, .int .i64 budget] w fun e w' => K0 w w' ∧
      ((planErr L (l.map AX.pl) now budget ≠ 0 ∧ e = .returned (.tuple #[.slice none 0 0, .slice none 0 0, .int .i64 (planErr L (l.map AX.pl) now budget)])) ∨
       (planErr L (l.map AX.pl) now budget = 0 ∧ ∃ (R : List ((Nat → Int) × Nat)) (T : List AX) (p1 : Option Addr) (c1 : Nat) (p2 : Option Addr) (c2 : Nat), e = .returned (.tuple #[.slice p1 R.length c1, .slice p2 T.length c2, .int .i64 0]) ∧
          w'.ownsRow w.heap.size 96 33 (.slice p1 R.length c1) R.length (R.flatMap whyC) ∧ w'.ownsRow w.heap.size 48 39 (.slice p2 T.length c2) T.length (T.flatMap axC) ∧
          R.map whyS = (refP L now budget l.length (l.map AX.pl)).1 ∧ T.map AX.pl = (refP L now budget l.length (l.map AX.pl)).2 ∧ (∀ r ∈ R, ∀ j, 0 ≤ r.1 j ∧ r.1 j ≤ 255) ∧ (∀ x ∈ T, x ∈ l))) := by
  refine vc_xplan p L.length c q l.length d now budget w _ ?_
  refine ⟨(xwrong_any L p c l q d now budget w hR hA hl hld (fun x hx => (hsz x hx).id)).mono fun e w1 ⟨he, k1⟩ => ⟨_, he, .of_k0 k1, bsp_intro (fun h0 => ?_) (fun h0 => ?_)⟩⟩
  · have h0 : planErr L (l.map AX.pl) now budget ≠ 0 := by simpa using h0
    exact ⟨k1, .inl ⟨h0, rfl⟩⟩
  have h0 : planErr L (l.map AX.pl) now budget = 0 := by simpa using h0
  have hchk : chkR L = 0 := by
    unfold planErr at h0
    split at h0
    · rename_i h; exact absurd h0 h
    · rename_i h; simpa using h
  have herr : errA [] (l.map AX.pl) = 0 := by
    unfold planErr at h0
    rw [if_neg (by simpa using hchk)] at h0
    split at h0
    · cases h0
    · exact h0
  obtain ⟨hgoodA, hnd⟩ := errA_ok .nil herr
  rw [List.nil_append, List.map_map] at hnd
  have hok : ∀ x ∈ l, ArOK x := fun x hx => by
    have h := hsz x hx
    exact arOK_of (hgoodA x.pl (List.mem_map.2 ⟨x, hx, rfl⟩)) h.gl h.gz h.hl h.id h.hs
  intro n1 W hW
  have kW : K0 w1 W := hW.kk rfl
  have kwW : K0 w W := k1.trans kW
  have g1 : w.heap.size ≤ n1 := Nat.le_trans k1.size (hW.fresh 0 rfl rfl)
  refine ⟨w.heap.size, [], l.flatMap axC, own_none g1 (hW.cells 0 rfl), axC_flat l, src_row (hA.k0 kwW), by omega, by omega, kwW.size, fun p' c' w2 ho2 hg2 _ => ?_⟩
  have k2' := kp_grown hg2
  have n1o : ∀ j, (Value.slice (some (Addr.mk n1 0 none)) 0 0).ownBlock = some j → j = n1 := fun j h => by simp [Value.ownBlock] at h; exact h.symm
  have kw2 : K0 w w2 := kwW.fresh k2' (fun j hj e => by have := n1o j e; omega)
  refine ⟨.of_kp k2' (fun z hz => by cases hz), ?_⟩
  rw [Nat.zero_add] at ho2 ⊢
  rw [List.nil_append] at ho2
  -- the steps
  refine ⟨fun vs w' => ∃ (here : List AX) (p3 : Option Addr) (c3 k : Nat) (R : List ((Nat → Int) × Nat)) (p4 : Option Addr) (c4 : Nat), vs = [.slice p3 here.length c3, .int .i64 (k : Int), .slice p4 R.length c4] ∧ 1 ≤ k ∧ k ≤ 4 ∧ R.length + here.length = l.length ∧ (∀ x ∈ here, x ∈ l) ∧ (here.map fun x => x.pl.id).Nodup ∧
      (∀ j, 1 ≤ j → j < k → bestF (goB L now budget (here.map AX.pl) j) (here.map AX.pl) none = none) ∧
      R.map whyS ++ (refP L now budget here.length (here.map AX.pl)).1 = (refP L now budget l.length (l.map AX.pl)).1 ∧ (refP L now budget here.length (here.map AX.pl)).2 = (refP L now budget l.length (l.map AX.pl)).2 ∧ (∀ r ∈ R, ∀ j, 0 ≤ r.1 j ∧ r.1 j ≤ 255) ∧
      w'.ownsRow w.heap.size 48 39 (.slice p3 here.length c3) here.length (here.flatMap axC) ∧ w'.ownsRow w.heap.size 96 33 (.slice p4 R.length c4) R.length (R.flatMap whyC) ∧ K0 w w',
    fun vs _ => (match vs with | .slice _ n _ :: .int _ k :: _ => n * 5 + (4 - k.toNat) | _ => 0), ⟨l, p', c', 1, [], none, 0, rfl, by omega, by omega, by simp, (fun x hx => hx), hnd, (fun j a b => by omega), rfl, rfl, (fun r hr => by cases hr), ho2, World.ownsRow_nil _ _ _ _, kw2⟩, ?_⟩
  rintro p3 n3 c3 x p4 n4 c4 w3 ⟨here, p3', c3', k, R, p4', c4', hv, hk1, hk4, hRl, hhl, hndh, hno, hR1, hR2, hRb, ho3, ho4, kw3⟩
  simp only [List.cons.injEq, Value.slice.injEq, Value.int.injEq, true_and, and_true] at hv
  obtain ⟨⟨rfl, rfl, rfl⟩, rfl, rfl, rfl, rfl⟩ := hv
  have hokh : ∀ x ∈ here, ArOK x := fun x hx => hok x (hhl x hx)
  have hrow : RowA axC 39 w3 p3 here := RowA.own ho3 axC_length (by decide)
  refine bsp_intro (fun hk3 => ?_) (fun hk3 => ?_)
  rotate_left
  · have hk : k = 4 := by simp at hk3; omega
    subst hk
    have hpn := pickR_miss hno
    have e1 : refP L now budget here.length (here.map AX.pl) = ([], here.map AX.pl) := by
      cases here.length with
      | zero => rfl
      | succ n => simp only [refP, hpn]
    rw [e1] at hR1 hR2
    rw [List.append_nil] at hR1
    exact ⟨kw3, .inr ⟨h0, R, here, p4, c4, p3, c3, rfl, ho4, ho3, hR1, hR2, hRb, hhl⟩⟩
  have hk3 : k ≤ 3 := by simp at hk3; omega
  have hkk : k = 1 ∨ k = 2 ∨ k = 3 := by omega
  generalize hG0 : bestF (goB L now budget (here.map AX.pl) k) (here.map AX.pl) none = best0
  refine ⟨fun vs w' => ∃ (i : Nat) (bi : Int) (cur : Option Ar), vs = [.int .i64 (i : Int), .int .i64 bi] ∧ i ≤ here.length ∧ ((bi = -1 ∧ cur = none) ∨ ∃ (j : Nat) (z : AX), bi = (j : Int) ∧ j < here.length ∧ here[j]? = some z ∧ cur = some z.pl) ∧
      bestF (goB L now budget (here.map AX.pl) k) ((here.drop i).map AX.pl) cur = best0 ∧ K0 w3 w',
    fun vs _ => (match vs with | .int _ a :: _ => here.length - a.toNat | _ => 0), ⟨0, -1, none, rfl, by omega, .inl ⟨rfl, rfl⟩, hG0, .refl _ _⟩, ?_⟩
  rintro a bi w4 ⟨i, bi', cur, hv, hi, hst, hbest, k4⟩
  simp only [List.cons.injEq, Value.int.injEq, true_and, and_true] at hv
  obtain ⟨rfl, rfl⟩ := hv
  refine bsp_intro (fun hlt => ?_) (fun hge => ?_)
  · have hlt : i < here.length := by simp at hlt; omega
    intro W5 hW5
    have k5 : K0 w4 W5 := hW5.kk rfl
    obtain ⟨y, b, o, hy, hp, hat⟩ := (hrow.k0 (k4.trans k5)).get hlt
    have hyl := List.mem_of_getElem? hy
    have hdr : (here.drop i).map AX.pl = y.pl :: (here.drop (i + 1)).map AX.pl := by
      rw [List.drop_eq_getElem_cons hlt]
      rw [List.getElem?_eq_getElem hlt] at hy
      simp at hy
      rw [hy]; rfl
    have hgo := fun wq (kq : K0 W5 wq) => xgoes_any L p c here p3 c3 y now k wq (hR.k0 (((kw3.trans k4).trans k5).trans kq)) hchk (hrow.k0 ((k4.trans k5).trans kq)) (by omega) (fun z hz => (hokh z hz).id) ((hX y (hhl y hyl)).k0 (((kw3.trans k4).trans k5).trans kq)) (hokh y hyl) (hz y (hhl y hyl)) hkk
    refine ⟨fun wx => K0 W5 wx, .refl _ _, bsp_intro (fun h3 => ?_) (fun h3 => ?_)⟩
    · -- step 3: the sum first
      have hk3' : k = 3 := by simp at h3; omega
      have htot := sumB_tot here
      refine ⟨(xtotal_any here p3 c3 W5 (hrow.k0 (k4.trans k5)) (by omega) (fun z hz => (hokh z hz).by_)).mono fun e w6 ⟨he, k6'⟩ => ⟨_, he, k6', nn_eq hp ⟨gimp_intro fun _ => by omega, y.id, y.dt, y.ar, y.gp, y.gs.length, y.gc, y.by_, y.ct, y.hp, y.hs.length, y.hc, y.wd, gimp_intro fun _ wx kx => by rw [Int.toNat_natCast]; exact hat.k0 kx, bsp_intro (fun hb => ?_) (fun hb => ?_)⟩⟩⟩
      · have hb : decide (totS (here.map AX.pl) > budget) = true := by rw [← htot]; simpa using hb
        refine ⟨(hgo w6 k6').mono fun e w7 ⟨he, k7⟩ => ⟨_, he, k6'.trans k7, ?_⟩⟩
        have kE : K0 W5 w7 := k6'.trans k7
        have kwE : K0 w3 w7 := (k4.trans k5).trans kE
        have k6 : K0 W5 W5 := .refl _ _
        have hgoB : ∀ y : AX, goR L now (here.map AX.pl) k y.pl = true → goB L now budget (here.map AX.pl) k y.pl = true := fun y h => by rw [goR_goB hkk, h, hb, Bool.or_true]; rfl
        have hgoN : ∀ y : AX, goR L now (here.map AX.pl) k y.pl = false → goB L now budget (here.map AX.pl) k y.pl = false := fun y h => by rw [goR_goB hkk, h, Bool.and_false]
        -- what goes with it (x: whether it goes)
        refine nn_eq hp ⟨gimp_intro fun _ => by omega, y.id, y.dt, y.ar, y.gp, y.gs.length, y.gc, y.by_, y.ct, y.hp, y.hs.length, y.hc, y.wd, gimp_intro fun _ wx kx => by rw [Int.toNat_natCast]; exact hat.k0 (k6.trans kx), ?_⟩
        rcases hst with ⟨rfl, hcur⟩ | ⟨j, z, rfl, hj, hz, hcur⟩
        · refine nn_eq hp ⟨gimp_intro fun h => by simp at h, y.id, y.dt, y.ar, y.gp, y.gs.length, y.gc, y.by_, y.ct, y.hp, y.hs.length, y.hc, y.wd, gimp_intro fun h => by simp at h, ?_⟩
          refine bsp_intro (fun hx => bsp_intro (fun h => by simp at h) (fun _ => ?_)) (fun hx => ?_)
          · have hx : goR L now (here.map AX.pl) k y.pl = true := by simpa using hx
            have hG := hgoB y hx
            refine ⟨.of_k0 kE, ⟨i + 1, (i : Int), some y.pl, by rw [inc64 (by omega)], hlt, .inr ⟨i, y, rfl, hlt, hy, rfl⟩, ?_, kwE⟩, by rw [inc64 (by omega)]; simp only [Int.toNat_natCast]; omega⟩
            rw [← hbest, hcur, hdr]
            show _ = bestF _ (y.pl :: _) none
            simp only [bestF, hG, if_true]
          · have hx : goR L now (here.map AX.pl) k y.pl = false := by simpa using hx
            have hG := hgoN y hx
            refine ⟨.of_k0 kE, ⟨i + 1, -1, none, by rw [inc64 (by omega)], hlt, .inl ⟨rfl, rfl⟩, ?_, kwE⟩, by rw [inc64 (by omega)]; simp only [Int.toNat_natCast]; omega⟩
            rw [← hbest, hcur, hdr]
            show _ = bestF _ (y.pl :: _) none
            simp only [bestF, hG, Bool.false_eq_true, if_false]
        · obtain ⟨b8, o8, hp8, hat8⟩ := (hrow.k0 (k4.trans k5)) j z hz
          rw [hp] at hp8
          simp only [Option.some.injEq, Addr.mk.injEq, and_true] at hp8
          obtain ⟨rfl, rfl⟩ := hp8
          refine nn_eq hp ⟨gimp_intro fun _ => by omega, z.id, z.dt, z.ar, z.gp, z.gs.length, z.gc, z.by_, z.ct, z.hp, z.hs.length, z.hc, z.wd, gimp_intro fun _ wx kx => by rw [Int.toNat_natCast]; exact hat8.k0 kx, ?_⟩
          refine bsp_intro (fun hx => bsp_intro (fun _ => ?_) (fun h => by exfalso; simp at h; omega)) (fun hx => ?_)
          · have hx : goR L now (here.map AX.pl) k y.pl = true := by simpa using hx
            have hG := hgoB y hx
            have holder := fun wq => xolder_any y z wq
            refine ⟨(holder _).mono fun e w8 ⟨he, k8⟩ => ⟨_, he, .of_k0 (kE.trans k8), ?_⟩⟩
            have hzl := List.mem_of_getElem? hz
            have hK : decide (cfJ (y.ar, idI y.id) (z.ar, idI z.id) < 0) = decide (cfK (keyA y.pl) (keyA z.pl) < 0) := by
              rw [show cfK (keyA y.pl) (keyA z.pl) = cfJ (y.ar, idI y.id) (z.ar, idI z.id) from cfJ_K (x := (y.ar, idI y.id)) (y := (z.ar, idI z.id)) (idI_bd (hokh y hyl).id) (idI_bd (hokh z hzl).id)]
            rw [hK]
            refine bsp_intro (fun ho => ?_) (fun ho => ?_)
            · have ho : cfK (keyA y.pl) (keyA z.pl) < 0 := by simpa using ho
              refine ⟨⟨i + 1, (i : Int), some y.pl, by rw [inc64 (by omega)], hlt, .inr ⟨i, y, rfl, hlt, hy, rfl⟩, ?_, kwE.trans k8⟩, by rw [inc64 (by omega)]; simp only [Int.toNat_natCast]; omega⟩
              rw [← hbest, hcur, hdr]
              show _ = bestF _ (y.pl :: _) (some z.pl)
              simp only [bestF]
              rw [if_pos ⟨hG, ho⟩]
            · have ho : ¬ cfK (keyA y.pl) (keyA z.pl) < 0 := by simpa using ho
              refine ⟨⟨i + 1, (j : Int), some z.pl, by rw [inc64 (by omega)], hlt, .inr ⟨j, z, rfl, hj, hz, rfl⟩, ?_, kwE.trans k8⟩, by rw [inc64 (by omega)]; simp only [Int.toNat_natCast]; omega⟩
              rw [← hbest, hcur, hdr]
              show _ = bestF _ (y.pl :: _) (some z.pl)
              simp only [bestF]
              rw [if_neg (fun h => ho h.2)]
          · have hx : goR L now (here.map AX.pl) k y.pl = false := by simpa using hx
            have hG := hgoN y hx
            refine ⟨.of_k0 kE, ⟨i + 1, (j : Int), some z.pl, by rw [inc64 (by omega)], hlt, .inr ⟨j, z, rfl, hj, hz, rfl⟩, ?_, kwE⟩, by rw [inc64 (by omega)]; simp only [Int.toNat_natCast]; omega⟩
            rw [← hbest, hcur, hdr]
            show _ = bestF _ (y.pl :: _) (some z.pl)
            simp only [bestF]
            rw [if_neg (fun h => by rw [hG] at h; exact absurd h.1 (by decide))]
      · have hb : decide (totS (here.map AX.pl) > budget) = false := by rw [← htot]; simpa using hb
        have hG : goB L now budget (here.map AX.pl) k y.pl = false := by rw [goR_goB hkk, hb, hk3']; rfl
        refine ⟨k6', nn_eq hp ⟨trivial, y.id, 0, 0, none, 0, 0, 0, 0, none, 0, 0, false, trivial, nn_eq hp ⟨trivial, y.id, 0, 0, none, 0, 0, 0, 0, none, 0, 0, false, trivial, .of_k0 k6', ⟨i + 1, bi, cur, by rw [inc64 (by omega)], hlt, hst, ?_, (k4.trans k5).trans k6'⟩, by rw [inc64 (by omega)]; simp only [Int.toNat_natCast]; omega⟩⟩⟩
        rw [← hbest, hdr]
        cases cur with
        | none =>
          show _ = bestF _ (y.pl :: _) none
          simp only [bestF, hG, Bool.false_eq_true, if_false]
        | some u =>
          show _ = bestF _ (y.pl :: _) (some u)
          simp only [bestF]
          rw [if_neg (fun h => by rw [hG] at h; exact absurd h.1 (by decide))]
    · have hk2 : k < 3 := by simp at h3; omega
      refine ⟨.refl _ _, nn_eq hp ⟨by omega, y.id, y.dt, y.ar, y.gp, y.gs.length, y.gc, y.by_, y.ct, y.hp, y.hs.length, y.hc, y.wd, fun wx kx => by rw [Int.toNat_natCast]; exact hat.k0 kx, ?_⟩⟩
      · refine ⟨(hgo W5 (.refl _ _)).mono fun e w7 ⟨he, k7⟩ => ⟨_, he, k7, ?_⟩⟩
        have kE : K0 W5 w7 := k7
        have kwE : K0 w3 w7 := (k4.trans k5).trans kE
        have k6 : K0 W5 W5 := .refl _ _
        have hd3 : decide (k < 3) = true := by simpa using hk2
        have hgoB : ∀ y : AX, goR L now (here.map AX.pl) k y.pl = true → goB L now budget (here.map AX.pl) k y.pl = true := fun y h => by rw [goR_goB hkk, h, hd3, Bool.true_or]; rfl
        have hgoN : ∀ y : AX, goR L now (here.map AX.pl) k y.pl = false → goB L now budget (here.map AX.pl) k y.pl = false := fun y h => by rw [goR_goB hkk, h, Bool.and_false]
        -- what goes with it (x: whether it goes)
        refine nn_eq hp ⟨gimp_intro fun _ => by omega, y.id, y.dt, y.ar, y.gp, y.gs.length, y.gc, y.by_, y.ct, y.hp, y.hs.length, y.hc, y.wd, gimp_intro fun _ wx kx => by rw [Int.toNat_natCast]; exact hat.k0 (k6.trans kx), ?_⟩
        rcases hst with ⟨rfl, hcur⟩ | ⟨j, z, rfl, hj, hz, hcur⟩
        · refine nn_eq hp ⟨gimp_intro fun h => by simp at h, y.id, y.dt, y.ar, y.gp, y.gs.length, y.gc, y.by_, y.ct, y.hp, y.hs.length, y.hc, y.wd, gimp_intro fun h => by simp at h, ?_⟩
          refine bsp_intro (fun hx => bsp_intro (fun h => by simp at h) (fun _ => ?_)) (fun hx => ?_)
          · have hx : goR L now (here.map AX.pl) k y.pl = true := by simpa using hx
            have hG := hgoB y hx
            refine ⟨.of_k0 kE, ⟨i + 1, (i : Int), some y.pl, by rw [inc64 (by omega)], hlt, .inr ⟨i, y, rfl, hlt, hy, rfl⟩, ?_, kwE⟩, by rw [inc64 (by omega)]; simp only [Int.toNat_natCast]; omega⟩
            rw [← hbest, hcur, hdr]
            show _ = bestF _ (y.pl :: _) none
            simp only [bestF, hG, if_true]
          · have hx : goR L now (here.map AX.pl) k y.pl = false := by simpa using hx
            have hG := hgoN y hx
            refine ⟨.of_k0 kE, ⟨i + 1, -1, none, by rw [inc64 (by omega)], hlt, .inl ⟨rfl, rfl⟩, ?_, kwE⟩, by rw [inc64 (by omega)]; simp only [Int.toNat_natCast]; omega⟩
            rw [← hbest, hcur, hdr]
            show _ = bestF _ (y.pl :: _) none
            simp only [bestF, hG, Bool.false_eq_true, if_false]
        · obtain ⟨b8, o8, hp8, hat8⟩ := (hrow.k0 (k4.trans k5)) j z hz
          rw [hp] at hp8
          simp only [Option.some.injEq, Addr.mk.injEq, and_true] at hp8
          obtain ⟨rfl, rfl⟩ := hp8
          refine nn_eq hp ⟨gimp_intro fun _ => by omega, z.id, z.dt, z.ar, z.gp, z.gs.length, z.gc, z.by_, z.ct, z.hp, z.hs.length, z.hc, z.wd, gimp_intro fun _ wx kx => by rw [Int.toNat_natCast]; exact hat8.k0 kx, ?_⟩
          refine bsp_intro (fun hx => bsp_intro (fun _ => ?_) (fun h => by exfalso; simp at h; omega)) (fun hx => ?_)
          · have hx : goR L now (here.map AX.pl) k y.pl = true := by simpa using hx
            have hG := hgoB y hx
            have holder := fun wq => xolder_any y z wq
            refine ⟨(holder _).mono fun e w8 ⟨he, k8⟩ => ⟨_, he, .of_k0 (kE.trans k8), ?_⟩⟩
            have hzl := List.mem_of_getElem? hz
            have hK : decide (cfJ (y.ar, idI y.id) (z.ar, idI z.id) < 0) = decide (cfK (keyA y.pl) (keyA z.pl) < 0) := by
              rw [show cfK (keyA y.pl) (keyA z.pl) = cfJ (y.ar, idI y.id) (z.ar, idI z.id) from cfJ_K (x := (y.ar, idI y.id)) (y := (z.ar, idI z.id)) (idI_bd (hokh y hyl).id) (idI_bd (hokh z hzl).id)]
            rw [hK]
            refine bsp_intro (fun ho => ?_) (fun ho => ?_)
            · have ho : cfK (keyA y.pl) (keyA z.pl) < 0 := by simpa using ho
              refine ⟨⟨i + 1, (i : Int), some y.pl, by rw [inc64 (by omega)], hlt, .inr ⟨i, y, rfl, hlt, hy, rfl⟩, ?_, kwE.trans k8⟩, by rw [inc64 (by omega)]; simp only [Int.toNat_natCast]; omega⟩
              rw [← hbest, hcur, hdr]
              show _ = bestF _ (y.pl :: _) (some z.pl)
              simp only [bestF]
              rw [if_pos ⟨hG, ho⟩]
            · have ho : ¬ cfK (keyA y.pl) (keyA z.pl) < 0 := by simpa using ho
              refine ⟨⟨i + 1, (j : Int), some z.pl, by rw [inc64 (by omega)], hlt, .inr ⟨j, z, rfl, hj, hz, rfl⟩, ?_, kwE.trans k8⟩, by rw [inc64 (by omega)]; simp only [Int.toNat_natCast]; omega⟩
              rw [← hbest, hcur, hdr]
              show _ = bestF _ (y.pl :: _) (some z.pl)
              simp only [bestF]
              rw [if_neg (fun h => ho h.2)]
          · have hx : goR L now (here.map AX.pl) k y.pl = false := by simpa using hx
            have hG := hgoN y hx
            refine ⟨.of_k0 kE, ⟨i + 1, (j : Int), some z.pl, by rw [inc64 (by omega)], hlt, .inr ⟨j, z, rfl, hj, hz, rfl⟩, ?_, kwE⟩, by rw [inc64 (by omega)]; simp only [Int.toNat_natCast]; omega⟩
            rw [← hbest, hcur, hdr]
            show _ = bestF _ (y.pl :: _) (some z.pl)
            simp only [bestF]
            rw [if_neg (fun h => by rw [hG] at h; exact absurd h.1 (by decide))]
  · have hi : i = here.length := by simp at hge; omega
    rw [hi, List.drop_length] at hbest
    have hbest : cur = best0 := hbest
    subst hbest
    rcases hst with ⟨rfl, rfl⟩ | ⟨j, z, rfl, hj, hz', rfl⟩
    · refine bsp_intro (fun _ => ⟨⟨here, p3, c3, k + 1, R, p4, c4, by rw [inc64 (by omega)], by omega, by omega, hRl, hhl, hndh, fun j' a b => ?_, hR1, hR2, hRb, owns_kp ho3 k4 (fun _ _ h => h), owns_kp ho4 k4 (fun _ _ h => h), kw3.trans k4⟩, ?_⟩) (fun h => by simp at h)
      · rcases Nat.lt_or_ge j' k with h | h
        · exact hno j' a h
        · rw [show j' = k by omega]; exact hG0
      · rw [inc64 (by omega)]; simp only [Int.toNat_natCast]; omega
    · refine bsp_intro (fun h => by exfalso; simp at h; omega) (fun _ => ?_)
      have hpick := pickR_hit hk1 hk3 hno hG0
      have hzl := List.mem_of_getElem? hz'
      obtain ⟨b, o, hp, hat⟩ := (hrow.k0 k4) j z hz'
      refine nn_eq hp ⟨by omega, z.id, by rw [Int.toNat_natCast]; exact hat.pre, fun n9 W9 hW9 => ?_⟩
      have k9 : K0 w4 W9 := hW9.kk rfl
      have kw9 : K0 w W9 := (kw3.trans k4).trans k9
      have ho4' := owns_kp ho4 (k4.trans k9) (fun _ _ h => h)
      have ho3' := owns_kp ho3 (k4.trans k9) (fun _ _ h => h)
      refine ⟨w.heap.size, _, ho4', by omega, by omega, kw9.size, fun p5 c5 w10 ho10 hg10 _ => ⟨.of_kp (kp_grown hg10) (fun z hz => by cases hz), fun W11 hW11 => ?_⟩⟩
      have k10 := kp_grown hg10
      have k11 : K0 w10 W11 := hW11.kk rfl
      have r43 : ∀ m, (Value.slice p3 here.length c3).ownBlock = some m → ¬ (Value.slice p4 R.length c4).ownBlock = some m := fun m hm e => by
        obtain ⟨cc, hcc⟩ := own_type ho3' hm
        exact own_not ho4' hcc rfl e
      have ho3'' := owns_kp (owns_kp ho3' k10 r43) k11 (fun _ _ h => h)
      have ho5 := owns_kp ho10 k11 (fun _ _ h => h)
      have kw10 : K0 w w10 := kw9.fresh k10 (fun m hm e => by have := own_ge ho4' e; omega)
      have kw11 : K0 w W11 := kw10.trans k11
      have hc3 := own_le ho3
      rw [inc64 (by omega)]
      refine ⟨fun _ => True, trivial, by omega, by omega, fun n12 w12 hn12 => ?_⟩
      have k12 : K0 W11 w12 := hn12.kp _
      have kw12 : K0 w w12 := kw11.trans k12
      have g12 : w.heap.size ≤ n12 := Nat.le_trans kw11.size hn12.ge
      have ho3d := owns_kp ho3'' k12 (fun _ _ h => h)
      have one : ∀ u ∈ here.flatMap axC, u.oneCell' = true := fun u hu => by obtain ⟨z, _, hz⟩ := List.mem_flatMap.1 hu; exact axC_one z u hz
      have hlen3 := ho3.1
      rw [Int.toNat_natCast, Int.toNat_natCast]
      refine ⟨w.heap.size, [], (here.flatMap axC).take (j * 39), own_none g12 hn12.block, ?_, src_take ho3d one _, by omega, by omega, kw12.size, fun p6 c6 w13 ho13 hg13 _ => ?_⟩
      · rw [List.length_take, hlen3]; exact Nat.min_eq_left (Nat.mul_le_mul_right _ (by omega))
      have k13 := kp_grown hg13
      have n12o : ∀ m, (Value.slice (some (Addr.mk n12 0 none)) 0 0).ownBlock = some m → m = n12 := fun m h => by simp [Value.ownBlock] at h; exact h.symm
      have kw13 : K0 w w13 := kw12.fresh k13 (fun m hm e => by have := n12o m e; omega)
      have hn12r : ∀ {m : Nat}, m < W11.heap.size → ¬ (Value.slice (some (Addr.mk n12 0 none)) 0 0).ownBlock = some m := fun {m} hm e => by
        have := n12o m e
        have := hn12.ge
        omega
      have ho3e := owns_kp ho3d k13 (fun m hm => hn12r (own_lt ho3'' hm))
      rw [Nat.zero_add] at ho13 ⊢
      refine ⟨w.heap.size, _, (here.flatMap axC).drop ((j + 1) * 39), ho13, ?_, src_drop ho3e one hj, by omega, by omega, kw13.size, fun p7 c7 w14 ho14 hg14 _ => ?_⟩
      · rw [List.length_drop, hlen3, Nat.sub_mul]
      have k14 := kp_grown hg14
      have kw14 : K0 w w14 := kw13.fresh k14 (fun m hm e => by have := own_ge ho13 e; omega)
      have hel : (here.eraseIdx j).length = here.length - 1 := List.length_eraseIdx_of_lt hj
      have em : j + (here.length - (j + 1)) = (here.eraseIdx j).length := by omega
      rw [List.nil_append, erase_flat axC 39 here j axC_length, em] at ho14
      rw [em]
      have ho5e := owns_kp (owns_kp ho5 k12 (fun _ _ h => h)) k13 (fun m hm => hn12r (own_lt ho5 hm))
      have ho5f := owns_kp ho5e k14 (fun m hm e => by
        obtain ⟨cc, hcc⟩ := own_type ho5e hm
        exact own_not ho13 hcc rfl e)
      have hwo := erase_wo AX.pl hndh hz'
      have e1 : here.length = (here.eraseIdx j).length + 1 := by omega
      have e2 : refP L now budget here.length (here.map AX.pl) = ((z.pl.id, k) :: (refP L now budget (here.eraseIdx j).length ((here.eraseIdx j).map AX.pl)).1, (refP L now budget (here.eraseIdx j).length ((here.eraseIdx j).map AX.pl)).2) := by
        rw [e1]
        simp only [refP, hpick, hwo]
      rw [e2] at hR1 hR2
      refine ⟨.of_kp (M := fun _ => True) (((k12.mono fun _ _ h => h.elim).trans (k13.mono fun _ _ _ => trivial)).trans (k14.mono fun _ _ _ => trivial)) (fun z hz => by cases hz), ⟨here.eraseIdx j, p7, c7, 1, R ++ [(z.id, k)], p5, c5, by simp, by omega, by omega, ?_, fun x hx => hhl x (List.mem_of_mem_eraseIdx hx), hndh.sublist ((List.eraseIdx_sublist here j).map _), (fun j' a b => by omega), ?_, hR2, ?_, ho14, ?_, kw14⟩, ?_⟩
      · rw [List.length_append, hel]; simp only [List.length_cons, List.length_nil]; omega
      · rw [← hR1, List.map_append, List.append_assoc]; rfl
      · intro r hr
        rcases List.mem_append.1 hr with h | h
        · exact hRb r h
        · simp at h
          subst h
          exact (hokh z hzl).id
      · rw [List.flatMap_append]
        have e : (R ++ [(z.id, k)]).length = R.length + 1 := by simp
        rw [e]
        simpa [whyC, whyL] using ho5f
      · simp only [Int.toNat_natCast]
        have : (1 : Int).toNat = 1 := rfl
        omega

end Go.Proofs.Ytmjanmffnblcoaa
