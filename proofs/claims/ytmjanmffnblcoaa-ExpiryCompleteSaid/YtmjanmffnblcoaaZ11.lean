/- The formulas of functions by the symbolic evaluator, and that each gives the call's contract. Written by a program (gen.py). No condition. -/
import Derived.Test.YtmjanmffnblcoaaProg
import Derived.Test.YtmjanmffnblcoaaZ02
import Derived.Test.YtmjanmffnblcoaaZ08
import Derived.Test.YtmjanmffnblcoaaZ04
import Derived.KernelRfl
namespace Go.Proofs.Ytmjanmffnblcoaa
set_option maxRecDepth 100000
set_option linter.unusedVariables false

def VC_xrule (s : ByteArray) (lo : Int) (hi : Int) (w : World) (R : Ending → World → Prop) : Prop :=
 ∀ (n : Nat) (W : World),
 Loc w.heap.size [Blk.mk n 69 [Value.string s, Value.int IntKind.i64 lo, Value.int IntKind.i64 hi] 2] w W →
 CallsS Try.prog 36 #[Value.string s] W fun (e : Ending) (w' : World) =>
 ∃ (x : ByteArray),
 ∃ (p : Option Addr),
 ∃ (n_1 : Nat),
 ∃ (c : Nat),
 ∃ (x_1 : Int),
 ∃ (x_2 : Int),
 e =
 Ending.returned
 (Value.tuple
 #[Value.agg #[Value.string x, Value.slice p n_1 c], Value.int IntKind.i64 x_1,
 Value.int IntKind.i64 x_2]) ∧
 KeptL [n] W w' ∧
 ∀ (n_2 : Nat),
 bsp (x_2 != 0)
 (∀ (W : World),
 Loc w.heap.size
 [Blk.mk n_2 86 [Value.string x, Value.slice p n_1 c] (wrM 2),
 Blk.mk n 69 [Value.string s, Value.int IntKind.i64 lo, Value.int IntKind.i64 hi] 0]
 w' W →
 R (Ending.returned (Value.int IntKind.i64 3)) W)
 (∃ (x_3 : Int),
 gimp (!decide (lo < 0))
 (∀ (W : World),
 Loc w.heap.size
 [Blk.mk n_2 86 [Value.string x, Value.slice p n_1 c] (wrM 2),
 Blk.mk n 69 [Value.string s, Value.int IntKind.i64 lo, Value.int IntKind.i64 hi] 0]
 w' W →
 W.cell? (Addr.mk n (0 + 1) none) = some (Value.int IntKind.i64 x_3)) ∧
 ∃ (x_4 : Int),
 gimp (!decide (lo < 0))
 (∀ (W : World),
 Loc w.heap.size
 [Blk.mk n_2 86 [Value.string x, Value.slice p n_1 c] (wrM 2),
 Blk.mk n 69 [Value.string s, Value.int IntKind.i64 lo, Value.int IntKind.i64 hi] 0]
 w' W →
 W.cell? (Addr.mk n (0 + 2) none) = some (Value.int IntKind.i64 x_4)) ∧
 ∃ (x_5 : Int),
 gimp (!(decide (lo < 0) || decide (x_3 > x_4)))
 (∀ (W : World),
 Loc w.heap.size
 [Blk.mk n_2 86 [Value.string x, Value.slice p n_1 c] (wrM 2),
 Blk.mk n 69 [Value.string s, Value.int IntKind.i64 lo, Value.int IntKind.i64 hi] 0]
 w' W →
 W.cell? (Addr.mk n (0 + 2) none) = some (Value.int IntKind.i64 x_5)) ∧
 bsp (decide (lo < 0) || decide (x_3 > x_4) || decide (x_5 > 36500))
 (∀ (W : World),
 Loc w.heap.size
 [Blk.mk n_2 86 [Value.string x, Value.slice p n_1 c] (wrM 2),
 Blk.mk n 69 [Value.string s, Value.int IntKind.i64 lo, Value.int IntKind.i64 hi] 0]
 w' W →
 R (Ending.returned (Value.int IntKind.i64 2)) W)
 (∀ (W : World),
 Loc w.heap.size
 [Blk.mk n_2 86 [Value.string x, Value.slice p n_1 c] (wrM 2),
 Blk.mk n 69 [Value.string s, Value.int IntKind.i64 lo, Value.int IntKind.i64 hi] 0]
 w' W →
 R (Ending.returned (Value.int IntKind.i64 0)) W))
theorem vc_xrule (s : ByteArray) (lo : Int) (hi : Int) (w : World) (R : Ending → World → Prop) (h : VC_xrule s lo hi w R) : Calls Try.prog 35 ([Value.agg
    #[Value.string s, Value.int IntKind.i64 lo, Value.int IntKind.i64 hi]] : List Value).toArray w R := by
  have e : execR2 { P := Try.prog, loops := [], pur := pur2, tails := [], joins := [], boxes := [] } Try.f35.results.toList R (Try.f35.body.getD .skip) (initF [Value.agg
    #[Value.string s, Value.int IntKind.i64 lo,
      Value.int IntKind.i64
        hi]] (Try.f35.ntmps - ([Value.agg
    #[Value.string s, Value.int IntKind.i64 lo,
      Value.int IntKind.i64 hi]] : List Value).length)) w = VC_xrule s lo hi w R := by kernel_rfl
  have hb : Try.f35.body = some (Try.f35.body.getD .skip) := by kernel_rfl
  exact calls_of_exec2' (P := Try.prog) (fn := Try.f35) (c := Try.f35.body.getD .skip) (args := [Value.agg
    #[Value.string s, Value.int IntKind.i64 lo, Value.int IntKind.i64 hi]]) (w := w) (R := R) pur2_ok Try.func35 hb e h

def VC_xcheck (p : Option Addr) (n : Nat) (c : Nat) (w : World) (R : Ending → World → Prop) : Prop :=
 bsp (decide ((↑n : Int) > 64)) (R (Ending.returned (Value.int IntKind.i64 9)) w)
 (∃ (I : List Value → World → Prop),
 ∃ (m : List Value → World → Nat),
 I [Value.int IntKind.i64 0] w ∧
 ∀ (x : Int) (w' : World),
 I [Value.int IntKind.i64 x] w' →
 bsp (decide (x < (↑n : Int)))
 (nn true p fun (b o : Nat) =>
 (0 ≤ x ∧ x < (↑n : Int)) ∧
 ∃ (x_1 : ByteArray),
 ∃ (x_2 : Int),
 ∃ (x_3 : Int),
 AtL w' b (o + x.toNat * 3) [Value.string x_1, Value.int IntKind.i64 x_2, Value.int IntKind.i64 x_3] ∧
 CallsS Try.prog 35 #[Value.agg #[Value.string x_1, Value.int IntKind.i64 x_2, Value.int IntKind.i64 x_3]]
 w' fun (e : Ending) (w'_1 : World) =>
 ∃ (x_4 : Int),
 e = Ending.returned (Value.int IntKind.i64 x_4) ∧
 KeptL [] w' w'_1 ∧
 bsp (x_4 != 0) (R (Ending.returned (Value.int IntKind.i64 x_4)) w'_1)
 (I [Value.int IntKind.i64 (IntKind.i64.wrap (x + 1))] w'_1 ∧
 m [Value.int IntKind.i64 (IntKind.i64.wrap (x + 1))] w'_1 < m [Value.int IntKind.i64 x] w'))
 (R (Ending.returned (Value.int IntKind.i64 0)) w'))
theorem vc_xcheck (p : Option Addr) (n : Nat) (c : Nat) (w : World) (R : Ending → World → Prop) (h : VC_xcheck p n c w R) : Calls Try.prog 19 ([Value.slice
    p n c] : List Value).toArray w R := by
  have e : execR2 { P := Try.prog, loops := [(4, [(3, Ck.int IntKind.i64)])], pur := pur2, tails := [], joins := [], boxes := [] } Try.f19.results.toList R (Try.f19.body.getD .skip) (initF [Value.slice
    p n c] (Try.f19.ntmps - ([Value.slice p n c] : List Value).length)) w = VC_xcheck p n c w R := by kernel_rfl
  have hb : Try.f19.body = some (Try.f19.body.getD .skip) := by kernel_rfl
  exact calls_of_exec2' (P := Try.prog) (fn := Try.f19) (c := Try.f19.body.getD .skip) (args := [Value.slice p n
    c]) (w := w) (R := R) pur2_ok Try.func19 hb e h

def VC_xdays (p : Option Addr) (n : Nat) (c : Nat) (q : Option Addr) (k : Nat) (d : Nat) (w : World) (R : Ending → World → Prop) : Prop :=
 bsp ((↑k : Int) == 0) (R (Ending.returned (Value.tuple #[Value.int IntKind.i64 0, Value.int IntKind.i64 36500])) w)
 (∃ (I : List Value → World → Prop),
 ∃ (m : List Value → World → Nat),
 I [Value.int IntKind.i64 0, Value.int IntKind.i64 0, Value.int IntKind.i64 0] w ∧
 ∀ (x x_1 x_2 : Int) (w' : World),
 I [Value.int IntKind.i64 x, Value.int IntKind.i64 x_1, Value.int IntKind.i64 x_2] w' →
 bsp (decide (x < (↑k : Int)))
 (∃ (I_1 : List Value → World → Prop),
 ∃ (m_1 : List Value → World → Nat),
 I_1 [Value.int IntKind.i64 0, Value.int IntKind.i64 36500, Value.int IntKind.i64 0] w' ∧
 ∀ (x_3 x_4 x_5 : Int) (w'_1 : World),
 I_1 [Value.int IntKind.i64 x_3, Value.int IntKind.i64 x_4, Value.int IntKind.i64 x_5] w'_1 →
 bsp (decide (x_3 < (↑n : Int)))
 (nn true p fun (b o : Nat) =>
 (0 ≤ x_3 ∧ x_3 < (↑n : Int)) ∧
 ∃ (x_6 : ByteArray),
 w'_1.cell? (Addr.mk b (o + x_3.toNat * 3) none) = some (Value.string x_6) ∧
 CallsS Try.prog 36 #[Value.string x_6] w'_1 fun (e : Ending) (w' : World) =>
 ∃ (x_7 : ByteArray),
 ∃ (p_1 : Option Addr),
 ∃ (n_1 : Nat),
 ∃ (c : Nat),
 ∃ (x_8 : Int),
 ∃ (x_9 : Int),
 e =
 Ending.returned
 (Value.tuple
 #[Value.agg #[Value.string x_7, Value.slice p_1 n_1 c], Value.int IntKind.i64 x_8,
 Value.int IntKind.i64 x_9]) ∧
 KeptL [] w'_1 w' ∧
 ∀ (n_2 : Nat),
 nn true q fun (b o : Nat) =>
 (0 ≤ x ∧ x < (↑k : Int)) ∧
 ∃ (x_10 : ByteArray),
 (∀ (W : World),
 Loc w.heap.size [Blk.mk n_2 86 [Value.string x_7, Value.slice p_1 n_1 c] (wrM 2)] w' W →
 W.cell? (Addr.mk b (o + x.toNat) none) = some (Value.string x_10)) ∧
 ∀ (W : World),
 Loc w.heap.size [Blk.mk n_2 86 [Value.string x_7, Value.slice p_1 n_1 c] (wrM 2)] w' W →
 CallsS Try.prog 37
 #[Value.agg #[Value.string x_7, Value.slice p_1 n_1 c], Value.string x_10] W
 fun (e : Ending) (w' : World) =>
 ∃ (x : Bool),
 e = Ending.returned (Value.bool x) ∧
 KeptL [n_2] W w' ∧
 bsp x
 (nn true p fun (b o : Nat) =>
 (0 ≤ x_3 ∧ x_3 < (↑n : Int)) ∧
 ∃ (x : Int),
 (∀ (W : World),
 Loc w.heap.size [Blk.mk n_2 86 [Value.string x_7, Value.slice p_1 n_1 c] 0]
 w' W →
 W.cell? (Addr.mk b (o + x_3.toNat * 3 + 1) none) =
 some (Value.int IntKind.i64 x)) ∧
 nn true p fun (b o : Nat) =>
 (0 ≤ x_3 ∧ x_3 < (↑n : Int)) ∧
 ∃ (x_11 : Int),
 (∀ (W : World),
 Loc w.heap.size
 [Blk.mk n_2 86 [Value.string x_7, Value.slice p_1 n_1 c] 0] w' W →
 W.cell? (Addr.mk b (o + x_3.toNat * 3 + 2) none) =
 some (Value.int IntKind.i64 x_11)) ∧
 ∀ (W : World),
 Loc w.heap.size
 [Blk.mk n_2 86 [Value.string x_7, Value.slice p_1 n_1 c] 0] w' W →
 I_1
 [Value.int IntKind.i64 (IntKind.i64.wrap (x_3 + 1)),
 Value.int IntKind.i64 x_11, Value.int IntKind.i64 x]
 W ∧
 m_1
 [Value.int IntKind.i64 (IntKind.i64.wrap (x_3 + 1)),
 Value.int IntKind.i64 x_11, Value.int IntKind.i64 x]
 W <
 m_1
 [Value.int IntKind.i64 x_3, Value.int IntKind.i64 x_4,
 Value.int IntKind.i64 x_5]
 w'_1)
 (I_1
 [Value.int IntKind.i64 (IntKind.i64.wrap (x_3 + 1)), Value.int IntKind.i64 x_4,
 Value.int IntKind.i64 x_5]
 w' ∧
 m_1
 [Value.int IntKind.i64 (IntKind.i64.wrap (x_3 + 1)), Value.int IntKind.i64 x_4,
 Value.int IntKind.i64 x_5]
 w' <
 m_1
 [Value.int IntKind.i64 x_3, Value.int IntKind.i64 x_4,
 Value.int IntKind.i64 x_5]
 w'_1))
 (I
 [Value.int IntKind.i64 (IntKind.i64.wrap (x + 1)),
 Value.int IntKind.i64 (if x_4 > x_1 then x_4 else x_1),
 Value.int IntKind.i64 (if x_5 > x_2 then x_5 else x_2)]
 w'_1 ∧
 m
 [Value.int IntKind.i64 (IntKind.i64.wrap (x + 1)),
 Value.int IntKind.i64 (if x_4 > x_1 then x_4 else x_1),
 Value.int IntKind.i64 (if x_5 > x_2 then x_5 else x_2)]
 w'_1 <
 m [Value.int IntKind.i64 x, Value.int IntKind.i64 x_1, Value.int IntKind.i64 x_2] w'))
 (R (Ending.returned (Value.tuple #[Value.int IntKind.i64 x_2, Value.int IntKind.i64 x_1])) w'))
theorem vc_xdays (p : Option Addr) (n : Nat) (c : Nat) (q : Option Addr) (k : Nat) (d : Nat) (w : World) (R : Ending → World → Prop) (h : VC_xdays p n c q k d w R) : Calls Try.prog 20 ([Value.slice
    p n c,
  Value.slice q k d] : List Value).toArray w R := by
  have e : execR2 { P := Try.prog, loops := [(4, [(6, Ck.int IntKind.i64), (5, Ck.int IntKind.i64), (4, Ck.int IntKind.i64)]), (8, [(9, Ck.int IntKind.i64), (8, Ck.int IntKind.i64), (7, Ck.int IntKind.i64)])], pur := pur2, tails := [(11, 5)], joins := [], boxes := [] } Try.f20.results.toList R (Try.f20.body.getD .skip) (initF [Value.slice
    p n c,
  Value.slice q k
    d] (Try.f20.ntmps - ([Value.slice p n c,
  Value.slice q k d] : List Value).length)) w = VC_xdays p n c q k d w R := by kernel_rfl
  have hb : Try.f20.body = some (Try.f20.body.getD .skip) := by kernel_rfl
  exact calls_of_exec2' (P := Try.prog) (fn := Try.f20) (c := Try.f20.body.getD .skip) (args := [Value.slice p n c,
  Value.slice q k d]) (w := w) (R := R) pur2_ok Try.func20 hb e h

def VC_xless (f : Nat → Int) (g : Nat → Int) (w : World) (R : Ending → World → Prop) : Prop :=
 ∀ (n n_1 : Nat) (W : World),
 Loc w.heap.size
 [Blk.mk n_1 37
 (arrI IntKind.u8 g 32 0)
 2,
 Blk.mk n 37
 (arrI IntKind.u8 f 32 0)
 2]
 w W →
 ∃ (I : List Value → World → Prop),
 ∃ (m : List Value → World → Nat),
 I [Value.int IntKind.i64 0] W ∧
 ∀ (x : Int) (w' : World),
 I [Value.int IntKind.i64 x] w' →
 bsp (decide (x < 32))
 (∀ (W : World),
 Loc w.heap.size [] w' W →
 (0 ≤ x ∧ x < (↑32 : Int)) ∧
 ∃ (x_1 : Int),
 W.cell? (Addr.mk n (0 + x.toNat) none) = some (Value.int IntKind.u8 x_1) ∧
 (0 ≤ x ∧ x < (↑32 : Int)) ∧
 ∃ (x_2 : Int),
 W.cell? (Addr.mk n_1 (0 + x.toNat) none) = some (Value.int IntKind.u8 x_2) ∧
 bsp (x_1 != x_2)
 (∀ (W_1 : World),
 Loc w.heap.size [] W W_1 →
 (0 ≤ x ∧ x < (↑32 : Int)) ∧
 ∃ (x_3 : Int),
 W_1.cell? (Addr.mk n (0 + x.toNat) none) = some (Value.int IntKind.u8 x_3) ∧
 (0 ≤ x ∧ x < (↑32 : Int)) ∧
 ∃ (x_4 : Int),
 W_1.cell? (Addr.mk n_1 (0 + x.toNat) none) = some (Value.int IntKind.u8 x_4) ∧
 R (Ending.returned (Value.bool (decide (x_3 < x_4)))) W_1)
 (I [Value.int IntKind.i64 (IntKind.i64.wrap (x + 1))] W ∧
 m [Value.int IntKind.i64 (IntKind.i64.wrap (x + 1))] W < m [Value.int IntKind.i64 x] w'))
 (R (Ending.returned (Value.bool false)) w')
theorem vc_xless (f : Nat → Int) (g : Nat → Int) (w : World) (R : Ending → World → Prop) (h : VC_xless f g w R) : Calls Try.prog 67 ([Value.agg
    (arrI IntKind.u8 f 32 0).toArray,
  Value.agg (arrI IntKind.u8 g 32 0).toArray] : List Value).toArray w R := by
  have e : execR2 { P := Try.prog, loops := [(2, [(5, Ck.int IntKind.i64)])], pur := pur2, tails := [], joins := [], boxes := [] } Try.f67.results.toList R (Try.f67.body.getD .skip) (initF [Value.agg
    (arrI IntKind.u8 f 32 0).toArray,
  Value.agg
    (arrI IntKind.u8 g 32
        0).toArray] (Try.f67.ntmps - ([Value.agg (arrI IntKind.u8 f 32 0).toArray,
  Value.agg (arrI IntKind.u8 g 32 0).toArray] : List Value).length)) w = VC_xless f g w R := by kernel_rfl
  have hb : Try.f67.body = some (Try.f67.body.getD .skip) := by kernel_rfl
  exact calls_of_exec2' (P := Try.prog) (fn := Try.f67) (c := Try.f67.body.getD .skip) (args := [Value.agg
    (arrI IntKind.u8 f 32 0).toArray,
  Value.agg (arrI IntKind.u8 g 32 0).toArray]) (w := w) (R := R) pur2_ok Try.func67 hb e h

def VC_xolder (id : Nat → Int) (dt : Int) (ar : Int) (gp : Option Addr) (gn : Nat) (gc : Nat) (by_ : Int) (ct : Int) (hp : Option Addr) (hn : Nat) (hc : Nat) (wd : Bool) (id2 : Nat → Int) (dt2 : Int) (ar2 : Int) (gp2 : Option Addr) (gn2 : Nat) (gc2 : Nat) (by2_ : Int) (ct2 : Int) (hp2 : Option Addr) (hn2 : Nat) (hc2 : Nat) (wd2 : Bool) (w : World) (R : Ending → World → Prop) : Prop :=
 ∀ (n n_1 : Nat),
 ∃ (x : Int),
 gimp (!decide (ar < ar2))
 (∀ (W : World),
 Loc w.heap.size
 [Blk.mk n_1 48
 (arrI IntKind.u8 id2 32 0 ++ [Value.int IntKind.i64 dt2,
 Value.int IntKind.i64 ar2, Value.slice gp2 gn2 gc2, Value.int IntKind.i64 by2_, Value.int IntKind.i64 ct2,
 Value.slice hp2 hn2 hc2, Value.bool wd2])
 2,
 Blk.mk n 48
 (arrI IntKind.u8 id 32 0 ++ [Value.int IntKind.i64 dt,
 Value.int IntKind.i64 ar, Value.slice gp gn gc, Value.int IntKind.i64 by_, Value.int IntKind.i64 ct,
 Value.slice hp hn hc, Value.bool wd])
 2]
 w W →
 W.cell? (Addr.mk n (0 + 33) none) = some (Value.int IntKind.i64 x)) ∧
 ∃ (x_1 : Int),
 gimp (!decide (ar < ar2))
 (∀ (W : World),
 Loc w.heap.size
 [Blk.mk n_1 48
 (arrI IntKind.u8 id2 32 0 ++ [Value.int IntKind.i64 dt2,
 Value.int IntKind.i64 ar2, Value.slice gp2 gn2 gc2, Value.int IntKind.i64 by2_, Value.int IntKind.i64 ct2,
 Value.slice hp2 hn2 hc2, Value.bool wd2])
 2,
 Blk.mk n 48
 (arrI IntKind.u8 id 32 0 ++ [Value.int IntKind.i64 dt,
 Value.int IntKind.i64 ar, Value.slice gp gn gc, Value.int IntKind.i64 by_, Value.int IntKind.i64 ct,
 Value.slice hp hn hc, Value.bool wd])
 2]
 w W →
 W.cell? (Addr.mk n_1 (0 + 33) none) = some (Value.int IntKind.i64 x_1)) ∧
 ∃ (f : Nat → Int),
 gimp (!decide (ar < ar2) && x == x_1)
 (∀ (W : World),
 Loc w.heap.size
 [Blk.mk n_1 48
 (arrI IntKind.u8 id2 32 0 ++ [Value.int IntKind.i64 dt2,
 Value.int IntKind.i64 ar2, Value.slice gp2 gn2 gc2, Value.int IntKind.i64 by2_, Value.int IntKind.i64 ct2,
 Value.slice hp2 hn2 hc2, Value.bool wd2])
 2,
 Blk.mk n 48
 (arrI IntKind.u8 id 32 0 ++ [Value.int IntKind.i64 dt,
 Value.int IntKind.i64 ar, Value.slice gp gn gc, Value.int IntKind.i64 by_, Value.int IntKind.i64 ct,
 Value.slice hp hn hc, Value.bool wd])
 2]
 w W →
 AtL W n 0
 (arrI IntKind.u8 f 32 0)) ∧
 ∃ (f_1 : Nat → Int),
 gimp (!decide (ar < ar2) && x == x_1)
 (∀ (W : World),
 Loc w.heap.size
 [Blk.mk n_1 48
 (arrI IntKind.u8 id2 32 0 ++ [Value.int IntKind.i64 dt2,
 Value.int IntKind.i64 ar2, Value.slice gp2 gn2 gc2, Value.int IntKind.i64 by2_,
 Value.int IntKind.i64 ct2, Value.slice hp2 hn2 hc2, Value.bool wd2])
 2,
 Blk.mk n 48
 (arrI IntKind.u8 id 32 0 ++ [Value.int IntKind.i64 dt,
 Value.int IntKind.i64 ar, Value.slice gp gn gc, Value.int IntKind.i64 by_, Value.int IntKind.i64 ct,
 Value.slice hp hn hc, Value.bool wd])
 2]
 w W →
 AtL W n_1 0
 (arrI IntKind.u8 f_1 32 0)) ∧
 ∀ (W : World),
 Loc w.heap.size
 [Blk.mk n_1 48
 (arrI IntKind.u8 id2 32 0 ++ [Value.int IntKind.i64 dt2,
 Value.int IntKind.i64 ar2, Value.slice gp2 gn2 gc2, Value.int IntKind.i64 by2_,
 Value.int IntKind.i64 ct2, Value.slice hp2 hn2 hc2, Value.bool wd2])
 2,
 Blk.mk n 48
 (arrI IntKind.u8 id 32 0 ++ [Value.int IntKind.i64 dt,
 Value.int IntKind.i64 ar, Value.slice gp gn gc, Value.int IntKind.i64 by_, Value.int IntKind.i64 ct,
 Value.slice hp hn hc, Value.bool wd])
 2]
 w W →
 bsp (!decide (ar < ar2))
 (bsp (x == x_1)
 (CallsS Try.prog 67
 #[Value.agg
 (arrI IntKind.u8 f 32 0).toArray,
 Value.agg
 (arrI IntKind.u8 f_1 32 0).toArray]
 W fun (e : Ending) (w' : World) =>
 ∃ (x : Bool),
 e = Ending.returned (Value.bool x) ∧
 KeptL [n_1, n] W w' ∧ R (Ending.returned (Value.bool (false || true && x))) w')
 (KeptL [n_1, n] W W ∧ R (Ending.returned (Value.bool (false || false))) W))
 (KeptL [n_1, n] W W ∧ R (Ending.returned (Value.bool true)) W)
theorem vc_xolder (id : Nat → Int) (dt : Int) (ar : Int) (gp : Option Addr) (gn : Nat) (gc : Nat) (by_ : Int) (ct : Int) (hp : Option Addr) (hn : Nat) (hc : Nat) (wd : Bool) (id2 : Nat → Int) (dt2 : Int) (ar2 : Int) (gp2 : Option Addr) (gn2 : Nat) (gc2 : Nat) (by2_ : Int) (ct2 : Int) (hp2 : Option Addr) (hn2 : Nat) (hc2 : Nat) (wd2 : Bool) (w : World) (R : Ending → World → Prop) (h : VC_xolder id dt ar gp gn gc by_ ct hp hn hc wd id2 dt2 ar2 gp2 gn2 gc2 by2_ ct2 hp2 hn2 hc2 wd2 w R) : Calls Try.prog 42 ([Value.agg
    (arrI IntKind.u8 id 32 0 ++
        [Value.int IntKind.i64 dt, Value.int IntKind.i64 ar, Value.slice gp gn gc, Value.int IntKind.i64 by_,
          Value.int IntKind.i64 ct, Value.slice hp hn hc, Value.bool wd]).toArray,
  Value.agg
    (arrI IntKind.u8 id2 32 0 ++
        [Value.int IntKind.i64 dt2, Value.int IntKind.i64 ar2, Value.slice gp2 gn2 gc2, Value.int IntKind.i64 by2_,
          Value.int IntKind.i64 ct2, Value.slice hp2 hn2 hc2, Value.bool wd2]).toArray] : List Value).toArray w R := by
  have e : execR2 { P := Try.prog, loops := [], pur := pur2, tails := [], joins := [], boxes := [] } Try.f42.results.toList R (Try.f42.body.getD .skip) (initF [Value.agg
    (arrI IntKind.u8 id 32 0 ++
        [Value.int IntKind.i64 dt, Value.int IntKind.i64 ar, Value.slice gp gn gc, Value.int IntKind.i64 by_,
          Value.int IntKind.i64 ct, Value.slice hp hn hc, Value.bool wd]).toArray,
  Value.agg
    (arrI IntKind.u8 id2 32 0 ++
        [Value.int IntKind.i64 dt2, Value.int IntKind.i64 ar2, Value.slice gp2 gn2 gc2, Value.int IntKind.i64 by2_,
          Value.int IntKind.i64 ct2, Value.slice hp2 hn2 hc2,
          Value.bool
            wd2]).toArray] (Try.f42.ntmps - ([Value.agg
    (arrI IntKind.u8 id 32 0 ++
        [Value.int IntKind.i64 dt, Value.int IntKind.i64 ar, Value.slice gp gn gc, Value.int IntKind.i64 by_,
          Value.int IntKind.i64 ct, Value.slice hp hn hc, Value.bool wd]).toArray,
  Value.agg
    (arrI IntKind.u8 id2 32 0 ++
        [Value.int IntKind.i64 dt2, Value.int IntKind.i64 ar2, Value.slice gp2 gn2 gc2, Value.int IntKind.i64 by2_,
          Value.int IntKind.i64 ct2, Value.slice hp2 hn2 hc2,
          Value.bool
            wd2]).toArray] : List Value).length)) w = VC_xolder id dt ar gp gn gc by_ ct hp hn hc wd id2 dt2 ar2 gp2 gn2 gc2 by2_ ct2 hp2 hn2 hc2 wd2 w R := by kernel_rfl
  have hb : Try.f42.body = some (Try.f42.body.getD .skip) := by kernel_rfl
  exact calls_of_exec2' (P := Try.prog) (fn := Try.f42) (c := Try.f42.body.getD .skip) (args := [Value.agg
    (arrI IntKind.u8 id 32 0 ++
        [Value.int IntKind.i64 dt, Value.int IntKind.i64 ar, Value.slice gp gn gc, Value.int IntKind.i64 by_,
          Value.int IntKind.i64 ct, Value.slice hp hn hc, Value.bool wd]).toArray,
  Value.agg
    (arrI IntKind.u8 id2 32 0 ++
        [Value.int IntKind.i64 dt2, Value.int IntKind.i64 ar2, Value.slice gp2 gn2 gc2, Value.int IntKind.i64 by2_,
          Value.int IntKind.i64 ct2, Value.slice hp2 hn2 hc2,
          Value.bool wd2]).toArray]) (w := w) (R := R) pur2_ok Try.func42 hb e h

def VC_xfind (p : Option Addr) (n : Nat) (c : Nat) (f : Nat → Int) (w : World) (R : Ending → World → Prop) : Prop :=
 ∀ (n_1 : Nat) (W : World),
 Loc w.heap.size
 [Blk.mk n_1 37
 (arrI IntKind.u8 f 32 0)
 2]
 w W →
 ∃ (I : List Value → World → Prop),
 ∃ (m : List Value → World → Nat),
 I [Value.int IntKind.i64 0] W ∧
 ∀ (x : Int) (w' : World),
 I [Value.int IntKind.i64 x] w' →
 Loc w.heap.size
 [Blk.mk n_1 37
 (arrI IntKind.u8 f 32 0)
 0]
 w' w' →
 bsp (decide (x < (↑n : Int)))
 (nn true p fun (b o : Nat) =>
 (0 ≤ x ∧ x < (↑n : Int)) ∧
 ∃ (f_1 : Nat → Int),
 (∀ (W : World),
 Loc w.heap.size
 [Blk.mk n_1 37
 (arrI IntKind.u8 f 32 0)
 0]
 w' W →
 AtL W b (o + x.toNat * 39)
 (arrI IntKind.u8 f_1 32 0)) ∧
 ∃ (r : Bool),
 EqP Try.prog 37
 (Value.agg
 (arrI IntKind.u8 f_1 32 0).toArray)
 (Value.agg
 (arrI IntKind.u8 f 32 0).toArray)
 r ∧
 bsp r
 (∀ (W : World),
 Loc w.heap.size
 [Blk.mk n_1 37
 (arrI IntKind.u8 f 32 0)
 0]
 w' W →
 R (Ending.returned (Value.int IntKind.i64 x)) W)
 (∀ (W : World),
 Loc w.heap.size
 [Blk.mk n_1 37
 (arrI IntKind.u8 f 32 0)
 0]
 w' W →
 I [Value.int IntKind.i64 (IntKind.i64.wrap (x + 1))] W ∧
 m [Value.int IntKind.i64 (IntKind.i64.wrap (x + 1))] W < m [Value.int IntKind.i64 x] w'))
 (R (Ending.returned (Value.int IntKind.i64 (-1))) w')
theorem vc_xfind (p : Option Addr) (n : Nat) (c : Nat) (f : Nat → Int) (w : World) (R : Ending → World → Prop) (h : VC_xfind p n c f w R) : Calls Try.prog 46 ([Value.slice
    p n c,
  Value.agg (arrI IntKind.u8 f 32 0).toArray] : List Value).toArray w R := by
  have e : execR2 { P := Try.prog, loops := [(2, [(5, Ck.int IntKind.i64)])], pur := pur2, tails := [], joins := [], boxes := [] } Try.f46.results.toList R (Try.f46.body.getD .skip) (initF [Value.slice
    p n c,
  Value.agg
    (arrI IntKind.u8 f 32
        0).toArray] (Try.f46.ntmps - ([Value.slice p n c,
  Value.agg (arrI IntKind.u8 f 32 0).toArray] : List Value).length)) w = VC_xfind p n c f w R := by kernel_rfl
  have hb : Try.f46.body = some (Try.f46.body.getD .skip) := by kernel_rfl
  exact calls_of_exec2' (P := Try.prog) (fn := Try.f46) (c := Try.f46.body.getD .skip) (args := [Value.slice p n c,
  Value.agg (arrI IntKind.u8 f 32 0).toArray]) (w := w) (R := R) pur2_ok Try.func46 hb e h

def VC_xprot (p : Option Addr) (n : Nat) (c : Nat) (id : Nat → Int) (dt : Int) (ar : Int) (gp : Option Addr) (gn : Nat) (gc : Nat) (by_ : Int) (ct : Int) (hp : Option Addr) (hn : Nat) (hc : Nat) (wd : Bool) (now : Int) (w : World) (R : Ending → World → Prop) : Prop :=
 ∀ (n_1 : Nat),
 bsp (permC ct)
 (∀ (W : World),
 Loc w.heap.size
 [Blk.mk n_1 48
 (arrI IntKind.u8 id 32 0 ++ [Value.int IntKind.i64 dt, Value.int IntKind.i64 ar,
 Value.slice gp gn gc, Value.int IntKind.i64 by_, Value.int IntKind.i64 ct, Value.slice hp hn hc, Value.bool wd])
 2]
 w W →
 R (Ending.returned (Value.bool true)) W)
 (∃ (p_1 : Option Addr),
 ∃ (n_2 : Nat),
 ∃ (c_1 : Nat),
 gimp (!ct != 0)
 (∀ (W : World),
 Loc w.heap.size
 [Blk.mk n_1 48
 (arrI IntKind.u8 id 32 0 ++ [Value.int IntKind.i64 dt,
 Value.int IntKind.i64 ar, Value.slice gp gn gc, Value.int IntKind.i64 by_, Value.int IntKind.i64 ct,
 Value.slice hp hn hc, Value.bool wd])
 2]
 w W →
 W.cell? (Addr.mk n_1 (0 + 37) none) = some (Value.slice p_1 n_2 c_1)) ∧
 ∃ (x : Int),
 gimp (ct != 0 || decide ((↑n_2 : Int) > 0))
 (∀ (W : World),
 Loc w.heap.size
 [Blk.mk n_1 48
 (arrI IntKind.u8 id 32 0 ++ [Value.int IntKind.i64 dt,
 Value.int IntKind.i64 ar, Value.slice gp gn gc, Value.int IntKind.i64 by_, Value.int IntKind.i64 ct,
 Value.slice hp hn hc, Value.bool wd])
 2]
 w W →
 W.cell? (Addr.mk n_1 (0 + 32) none) = some (Value.int IntKind.i64 x)) ∧
 bsp ((ct != 0 || decide ((↑n_2 : Int) > 0)) && decide (now ≤ IntKind.i64.wrap (x + 20160)))
 (∀ (W : World),
 Loc w.heap.size
 [Blk.mk n_1 48
 (arrI IntKind.u8 id 32 0 ++ [Value.int IntKind.i64 dt,
 Value.int IntKind.i64 ar, Value.slice gp gn gc, Value.int IntKind.i64 by_, Value.int IntKind.i64 ct,
 Value.slice hp hn hc, Value.bool wd])
 2]
 w W →
 R (Ending.returned (Value.bool true)) W)
 (∀ (W : World),
 Loc w.heap.size
 [Blk.mk n_1 48
 (arrI IntKind.u8 id 32 0 ++ [Value.int IntKind.i64 dt,
 Value.int IntKind.i64 ar, Value.slice gp gn gc, Value.int IntKind.i64 by_, Value.int IntKind.i64 ct,
 Value.slice hp hn hc, Value.bool wd])
 2]
 w W →
 ∃ (I : List Value → World → Prop),
 ∃ (m : List Value → World → Nat),
 I [Value.int IntKind.i64 0] W ∧
 ∀ (x : Int) (w' : World),
 I [Value.int IntKind.i64 x] w' →
 Loc w.heap.size
 [Blk.mk n_1 48
 (arrI IntKind.u8 id 32 0 ++ [Value.int IntKind.i64 dt,
 Value.int IntKind.i64 ar, Value.slice gp gn gc, Value.int IntKind.i64 by_,
 Value.int IntKind.i64 ct, Value.slice hp hn hc, Value.bool wd])
 0]
 w' w' →
 bsp (decide (x < (↑hn : Int)))
 (nn true hp fun (b o : Nat) =>
 (0 ≤ x ∧ x < (↑hn : Int)) ∧
 ∃ (f : Nat → Int),
 AtL w' b (o + x.toNat * 32)
 (arrI IntKind.u8 f 32 0) ∧
 CallsS Try.prog 46
 #[Value.slice p n c,
 Value.agg
 (arrI IntKind.u8 f 32 0).toArray]
 w' fun (e : Ending) (w'_1 : World) =>
 ∃ (x_1 : Int),
 e = Ending.returned (Value.int IntKind.i64 x_1) ∧
 KeptL [n_1] w' w'_1 ∧
 bsp (decide (x_1 ≥ 0)) (R (Ending.returned (Value.bool true)) w'_1)
 (I [Value.int IntKind.i64 (IntKind.i64.wrap (x + 1))] w'_1 ∧
 m [Value.int IntKind.i64 (IntKind.i64.wrap (x + 1))] w'_1 < m [Value.int IntKind.i64 x] w'))
 (R (Ending.returned (Value.bool false)) w')))
theorem vc_xprot (p : Option Addr) (n : Nat) (c : Nat) (id : Nat → Int) (dt : Int) (ar : Int) (gp : Option Addr) (gn : Nat) (gc : Nat) (by_ : Int) (ct : Int) (hp : Option Addr) (hn : Nat) (hc : Nat) (wd : Bool) (now : Int) (w : World) (R : Ending → World → Prop) (h : VC_xprot p n c id dt ar gp gn gc by_ ct hp hn hc wd now w R) : Calls Try.prog 27 ([Value.slice
    p n c,
  Value.agg
    (arrI IntKind.u8 id 32 0 ++
        [Value.int IntKind.i64 dt, Value.int IntKind.i64 ar, Value.slice gp gn gc, Value.int IntKind.i64 by_,
          Value.int IntKind.i64 ct, Value.slice hp hn hc, Value.bool wd]).toArray,
  Value.int IntKind.i64 now] : List Value).toArray w R := by
  have e : execR2 { P := Try.prog, loops := [(6, [(7, Ck.int IntKind.i64)])], pur := pur2, tails := [], joins := [], boxes := [] } Try.f27.results.toList R (Try.f27.body.getD .skip) (initF [Value.slice
    p n c,
  Value.agg
    (arrI IntKind.u8 id 32 0 ++
        [Value.int IntKind.i64 dt, Value.int IntKind.i64 ar, Value.slice gp gn gc, Value.int IntKind.i64 by_,
          Value.int IntKind.i64 ct, Value.slice hp hn hc, Value.bool wd]).toArray,
  Value.int IntKind.i64
    now] (Try.f27.ntmps - ([Value.slice p n c,
  Value.agg
    (arrI IntKind.u8 id 32 0 ++
        [Value.int IntKind.i64 dt, Value.int IntKind.i64 ar, Value.slice gp gn gc, Value.int IntKind.i64 by_,
          Value.int IntKind.i64 ct, Value.slice hp hn hc, Value.bool wd]).toArray,
  Value.int IntKind.i64
    now] : List Value).length)) w = VC_xprot p n c id dt ar gp gn gc by_ ct hp hn hc wd now w R := by kernel_rfl
  have hb : Try.f27.body = some (Try.f27.body.getD .skip) := by kernel_rfl
  exact calls_of_exec2' (P := Try.prog) (fn := Try.f27) (c := Try.f27.body.getD .skip) (args := [Value.slice p n c,
  Value.agg
    (arrI IntKind.u8 id 32 0 ++
        [Value.int IntKind.i64 dt, Value.int IntKind.i64 ar, Value.slice gp gn gc, Value.int IntKind.i64 by_,
          Value.int IntKind.i64 ct, Value.slice hp hn hc, Value.bool wd]).toArray,
  Value.int IntKind.i64 now]) (w := w) (R := R) pur2_ok Try.func27 hb e h

def VC_xtotal (p : Option Addr) (n : Nat) (c : Nat) (w : World) (R : Ending → World → Prop) : Prop :=
 ∃ (I : List Value → World → Prop),
 ∃ (m : List Value → World → Nat),
 I [Value.int IntKind.i64 0, Value.int IntKind.i64 0] w ∧
 ∀ (x x_1 : Int) (w' : World),
 I [Value.int IntKind.i64 x, Value.int IntKind.i64 x_1] w' →
 bsp (decide (x < (↑n : Int)))
 (nn true p fun (b o : Nat) =>
 (0 ≤ x ∧ x < (↑n : Int)) ∧
 ∃ (x_2 : Int),
 w'.cell? (Addr.mk b (o + x.toNat * 39 + 35) none) = some (Value.int IntKind.i64 x_2) ∧
 I [Value.int IntKind.i64 (IntKind.i64.wrap (x + 1)), Value.int IntKind.i64 (IntKind.i64.wrap (x_1 + x_2))]
 w' ∧
 m [Value.int IntKind.i64 (IntKind.i64.wrap (x + 1)), Value.int IntKind.i64 (IntKind.i64.wrap (x_1 + x_2))]
 w' <
 m [Value.int IntKind.i64 x, Value.int IntKind.i64 x_1] w')
 (R (Ending.returned (Value.int IntKind.i64 x_1)) w')
theorem vc_xtotal (p : Option Addr) (n : Nat) (c : Nat) (w : World) (R : Ending → World → Prop) (h : VC_xtotal p n c w R) : Calls Try.prog 40 ([Value.slice
    p n c] : List Value).toArray w R := by
  have e : execR2 { P := Try.prog, loops := [(3, [(4, Ck.int IntKind.i64), (3, Ck.int IntKind.i64)])], pur := pur2, tails := [], joins := [], boxes := [] } Try.f40.results.toList R (Try.f40.body.getD .skip) (initF [Value.slice
    p n c] (Try.f40.ntmps - ([Value.slice p n c] : List Value).length)) w = VC_xtotal p n c w R := by kernel_rfl
  have hb : Try.f40.body = some (Try.f40.body.getD .skip) := by kernel_rfl
  exact calls_of_exec2' (P := Try.prog) (fn := Try.f40) (c := Try.f40.body.getD .skip) (args := [Value.slice p n
    c]) (w := w) (R := R) pur2_ok Try.func40 hb e h

end Go.Proofs.Ytmjanmffnblcoaa

/- The formulas of functions by the symbolic evaluator, and that each gives the call's contract. Written by a program (gen.py). No condition. -/
namespace Go.Proofs.Ytmjanmffnblcoaa
set_option maxRecDepth 100000
set_option linter.unusedVariables false

def VC_xgoes (p : Option Addr) (n : Nat) (c : Nat) (q : Option Addr) (k : Nat) (d : Nat) (id : Nat → Int) (dt : Int) (ar : Int) (gp : Option Addr) (gn : Nat) (gc : Nat) (by_ : Int) (ct : Int) (hp : Option Addr) (hn : Nat) (hc : Nat) (wd : Bool) (now : Int) (step : Int) (w : World) (R : Ending → World → Prop) : Prop :=
 ∀ (n_1 : Nat) (W : World),
 Loc w.heap.size
 [Blk.mk n_1 48
 (arrI IntKind.u8 id 32 0 ++ [Value.int IntKind.i64 dt, Value.int IntKind.i64 ar,
 Value.slice gp gn gc, Value.int IntKind.i64 by_, Value.int IntKind.i64 ct, Value.slice hp hn hc, Value.bool wd])
 2]
 w W →
 CallsS Try.prog 27
 #[Value.slice q k d,
 Value.agg
 (arrI IntKind.u8 id 32 0 ++ [Value.int IntKind.i64 dt, Value.int IntKind.i64 ar,
 Value.slice gp gn gc, Value.int IntKind.i64 by_, Value.int IntKind.i64 ct, Value.slice hp hn hc, Value.bool wd]).toArray,
 Value.int IntKind.i64 now]
 W fun (e : Ending) (w' : World) =>
 ∃ (x : Bool),
 e = Ending.returned (Value.bool x) ∧
 KeptL [n_1] W w' ∧
 bsp x (R (Ending.returned (Value.bool false)) w')
 (CallsS Try.prog 20 #[Value.slice p n c, Value.slice gp gn gc] w' fun (e : Ending) (w'_1 : World) =>
 ∃ (x : Int),
 ∃ (x_1 : Int),
 e = Ending.returned (Value.tuple #[Value.int IntKind.i64 x, Value.int IntKind.i64 x_1]) ∧
 KeptL [n_1] w' w'_1 ∧
 bsp (step == 1)
 (∃ (x : Int),
 gimp wd (w'_1.cell? (Addr.mk n_1 (0 + 36) none) = some (Value.int IntKind.i64 x)) ∧
 R (Ending.returned (Value.bool (wd && x == 0))) w'_1)
 (bsp (step == 2)
 (R (Ending.returned (Value.bool (decide (now ≥ IntKind.i64.wrap (ar + IntKind.i64.wrap (x_1 * 1440))))))
 w'_1)
 (R (Ending.returned (Value.bool (decide (now ≥ IntKind.i64.wrap (ar + IntKind.i64.wrap (x * 1440))))))
 w'_1)))
theorem vc_xgoes (p : Option Addr) (n : Nat) (c : Nat) (q : Option Addr) (k : Nat) (d : Nat) (id : Nat → Int) (dt : Int) (ar : Int) (gp : Option Addr) (gn : Nat) (gc : Nat) (by_ : Int) (ct : Int) (hp : Option Addr) (hn : Nat) (hc : Nat) (wd : Bool) (now : Int) (step : Int) (w : World) (R : Ending → World → Prop) (h : VC_xgoes p n c q k d id dt ar gp gn gc by_ ct hp hn hc wd now step w R) : Calls Try.prog 41 ([Value.slice
    p n c,
  Value.slice q k d,
  Value.agg
    (arrI IntKind.u8 id 32 0 ++
        [Value.int IntKind.i64 dt, Value.int IntKind.i64 ar, Value.slice gp gn gc, Value.int IntKind.i64 by_,
          Value.int IntKind.i64 ct, Value.slice hp hn hc, Value.bool wd]).toArray,
  Value.int IntKind.i64 now, Value.int IntKind.i64 step] : List Value).toArray w R := by
  have e : execR2 { P := Try.prog, loops := [], pur := pur2, tails := [], joins := [], boxes := [] } Try.f41.results.toList R (Try.f41.body.getD .skip) (initF [Value.slice
    p n c,
  Value.slice q k d,
  Value.agg
    (arrI IntKind.u8 id 32 0 ++
        [Value.int IntKind.i64 dt, Value.int IntKind.i64 ar, Value.slice gp gn gc, Value.int IntKind.i64 by_,
          Value.int IntKind.i64 ct, Value.slice hp hn hc, Value.bool wd]).toArray,
  Value.int IntKind.i64 now,
  Value.int IntKind.i64
    step] (Try.f41.ntmps - ([Value.slice p n c, Value.slice q k d,
  Value.agg
    (arrI IntKind.u8 id 32 0 ++
        [Value.int IntKind.i64 dt, Value.int IntKind.i64 ar, Value.slice gp gn gc, Value.int IntKind.i64 by_,
          Value.int IntKind.i64 ct, Value.slice hp hn hc, Value.bool wd]).toArray,
  Value.int IntKind.i64 now,
  Value.int IntKind.i64
    step] : List Value).length)) w = VC_xgoes p n c q k d id dt ar gp gn gc by_ ct hp hn hc wd now step w R := by kernel_rfl
  have hb : Try.f41.body = some (Try.f41.body.getD .skip) := by kernel_rfl
  exact calls_of_exec2' (P := Try.prog) (fn := Try.f41) (c := Try.f41.body.getD .skip) (args := [Value.slice p n c,
  Value.slice q k d,
  Value.agg
    (arrI IntKind.u8 id 32 0 ++
        [Value.int IntKind.i64 dt, Value.int IntKind.i64 ar, Value.slice gp gn gc, Value.int IntKind.i64 by_,
          Value.int IntKind.i64 ct, Value.slice hp hn hc, Value.bool wd]).toArray,
  Value.int IntKind.i64 now, Value.int IntKind.i64 step]) (w := w) (R := R) pur2_ok Try.func41 hb e h

def VC_xwrong (p : Option Addr) (n : Nat) (c : Nat) (q : Option Addr) (k : Nat) (d : Nat) (now : Int) (budget : Int) (w : World) (R : Ending → World → Prop) : Prop :=
 CallsS Try.prog 19 #[Value.slice p n c] w fun (e : Ending) (w' : World) =>
 ∃ (x : Int),
 e = Ending.returned (Value.int IntKind.i64 x) ∧
 KeptL [] w w' ∧
 bsp (x != 0) (R (Ending.returned (Value.int IntKind.i64 x)) w')
 (bsp (decide (now < 0) || decide (now > 105190559) || decide (budget < 0))
 (R (Ending.returned (Value.int IntKind.i64 2)) w')
 (∃ (I : List Value → World → Prop),
 ∃ (m : List Value → World → Nat),
 I [Value.int IntKind.i64 0] w' ∧
 ∀ (x : Int) (w' : World),
 I [Value.int IntKind.i64 x] w' →
 bsp (decide (x < (↑k : Int)))
 (nn true q fun (b o : Nat) =>
 (0 ≤ x ∧ x < (↑k : Int)) ∧
 ∃ (f : Nat → Int),
 ∃ (x_1 : Int),
 ∃ (x_2 : Int),
 ∃ (p : Option Addr),
 ∃ (n : Nat),
 ∃ (c : Nat),
 ∃ (x_3 : Int),
 ∃ (x_4 : Int),
 ∃ (p_1 : Option Addr),
 ∃ (n_1 : Nat),
 ∃ (c_1 : Nat),
 ∃ (x_5 : Bool),
 AtL w' b (o + x.toNat * 39)
 (arrI IntKind.u8 f 32 0 ++ [Value.int IntKind.i64 x_1,
 Value.int IntKind.i64 x_2, Value.slice p n c, Value.int IntKind.i64 x_3,
 Value.int IntKind.i64 x_4, Value.slice p_1 n_1 c_1, Value.bool x_5]) ∧
 ∀ (n_2 : Nat),
 ∃ (x_6 : Int),
 gimp (!decide (x_1 < 0))
 (∀ (W : World),
 Loc w.heap.size
 [Blk.mk n_2 48
 (arrI IntKind.u8 f 32 0 ++ [Value.int IntKind.i64 x_1, Value.int IntKind.i64 x_2,
 Value.slice p n c, Value.int IntKind.i64 x_3, Value.int IntKind.i64 x_4,
 Value.slice p_1 n_1 c_1, Value.bool x_5])
 (wrM 2)]
 w' W →
 W.cell? (Addr.mk n_2 (0 + 32) none) = some (Value.int IntKind.i64 x_6)) ∧
 ∃ (x_7 : Int),
 gimp (!(decide (x_1 < 0) || decide (x_6 > 105190559)))
 (∀ (W : World),
 Loc w.heap.size
 [Blk.mk n_2 48
 (arrI IntKind.u8 f 32 0 ++ [Value.int IntKind.i64 x_1, Value.int IntKind.i64 x_2, Value.slice p n c,
 Value.int IntKind.i64 x_3, Value.int IntKind.i64 x_4, Value.slice p_1 n_1 c_1,
 Value.bool x_5])
 (wrM 2)]
 w' W →
 W.cell? (Addr.mk n_2 (0 + 33) none) = some (Value.int IntKind.i64 x_7)) ∧
 ∃ (x_8 : Int),
 gimp (!(decide (x_1 < 0) || decide (x_6 > 105190559) || decide (x_7 < 0)))
 (∀ (W : World),
 Loc w.heap.size
 [Blk.mk n_2 48
 (arrI IntKind.u8 f 32 0 ++ [Value.int IntKind.i64 x_1, Value.int IntKind.i64 x_2, Value.slice p n c,
 Value.int IntKind.i64 x_3, Value.int IntKind.i64 x_4, Value.slice p_1 n_1 c_1,
 Value.bool x_5])
 (wrM 2)]
 w' W →
 W.cell? (Addr.mk n_2 (0 + 33) none) = some (Value.int IntKind.i64 x_8)) ∧
 ∃ (x_9 : Int),
 gimp
 (!(decide (x_1 < 0) || decide (x_6 > 105190559) || decide (x_7 < 0) ||
 decide (x_8 > 105190559)))
 (∀ (W : World),
 Loc w.heap.size
 [Blk.mk n_2 48
 (arrI IntKind.u8 f 32 0 ++ [Value.int IntKind.i64 x_1, Value.int IntKind.i64 x_2, Value.slice p n c,
 Value.int IntKind.i64 x_3, Value.int IntKind.i64 x_4,
 Value.slice p_1 n_1 c_1, Value.bool x_5])
 (wrM 2)]
 w' W →
 W.cell? (Addr.mk n_2 (0 + 35) none) = some (Value.int IntKind.i64 x_9)) ∧
 ∃ (x_10 : Int),
 gimp
 (!(decide (x_1 < 0) || decide (x_6 > 105190559) || decide (x_7 < 0) ||
 decide (x_8 > 105190559) ||
 decide (x_9 < 0)))
 (∀ (W : World),
 Loc w.heap.size
 [Blk.mk n_2 48
 (arrI IntKind.u8 f 32 0 ++ [Value.int IntKind.i64 x_1, Value.int IntKind.i64 x_2, Value.slice p n c,
 Value.int IntKind.i64 x_3, Value.int IntKind.i64 x_4,
 Value.slice p_1 n_1 c_1, Value.bool x_5])
 (wrM 2)]
 w' W →
 W.cell? (Addr.mk n_2 (0 + 35) none) = some (Value.int IntKind.i64 x_10)) ∧
 ∃ (x_11 : Int),
 gimp
 (!(decide (x_1 < 0) || decide (x_6 > 105190559) || decide (x_7 < 0) ||
 decide (x_8 > 105190559) ||
 decide (x_9 < 0) ||
 decide (x_10 > 1099511627776)))
 (∀ (W : World),
 Loc w.heap.size
 [Blk.mk n_2 48
 (arrI IntKind.u8 f 32 0 ++ [Value.int IntKind.i64 x_1, Value.int IntKind.i64 x_2, Value.slice p n c,
 Value.int IntKind.i64 x_3, Value.int IntKind.i64 x_4,
 Value.slice p_1 n_1 c_1, Value.bool x_5])
 (wrM 2)]
 w' W →
 W.cell? (Addr.mk n_2 (0 + 36) none) = some (Value.int IntKind.i64 x_11)) ∧
 ∃ (x_12 : Int),
 gimp
 (!(decide (x_1 < 0) || decide (x_6 > 105190559) || decide (x_7 < 0) ||
 decide (x_8 > 105190559) ||
 decide (x_9 < 0) ||
 decide (x_10 > 1099511627776) ||
 decide (x_11 < 0)))
 (∀ (W : World),
 Loc w.heap.size
 [Blk.mk n_2 48
 (arrI IntKind.u8 f 32 0 ++ [Value.int IntKind.i64 x_1, Value.int IntKind.i64 x_2,
 Value.slice p n c, Value.int IntKind.i64 x_3,
 Value.int IntKind.i64 x_4, Value.slice p_1 n_1 c_1, Value.bool x_5])
 (wrM 2)]
 w' W →
 W.cell? (Addr.mk n_2 (0 + 36) none) = some (Value.int IntKind.i64 x_12)) ∧
 bsp
 (decide (x_1 < 0) || decide (x_6 > 105190559) || decide (x_7 < 0) ||
 decide (x_8 > 105190559) ||
 decide (x_9 < 0) ||
 decide (x_10 > 1099511627776) ||
 decide (x_11 < 0) ||
 decide (x_12 > 5))
 (∀ (W : World),
 Loc w.heap.size
 [Blk.mk n_2 48
 (arrI IntKind.u8 f 32 0 ++ [Value.int IntKind.i64 x_1, Value.int IntKind.i64 x_2,
 Value.slice p n c, Value.int IntKind.i64 x_3,
 Value.int IntKind.i64 x_4, Value.slice p_1 n_1 c_1, Value.bool x_5])
 (wrM 2)]
 w' W →
 R (Ending.returned (Value.int IntKind.i64 2)) W)
 ((0 ≤ x ∧ x ≤ (↑d : Int)) ∧
 ∀ (W : World),
 Loc w.heap.size
 [Blk.mk n_2 48
 (arrI IntKind.u8 f 32 0 ++ [Value.int IntKind.i64 x_1, Value.int IntKind.i64 x_2,
 Value.slice p n c, Value.int IntKind.i64 x_3,
 Value.int IntKind.i64 x_4, Value.slice p_1 n_1 c_1, Value.bool x_5])
 (wrM 2)]
 w' W →
 CallsS Try.prog 46
 #[Value.slice q x.toNat d,
 Value.agg
 (arrI IntKind.u8 f 32 0).toArray]
 W fun (e : Ending) (w'_1 : World) =>
 ∃ (x_13 : Int),
 e = Ending.returned (Value.int IntKind.i64 x_13) ∧
 KeptL [n_2] W w'_1 ∧
 bsp (decide (x_13 ≥ 0))
 (R (Ending.returned (Value.int IntKind.i64 7)) w'_1)
 (I [Value.int IntKind.i64 (IntKind.i64.wrap (x + 1))] w'_1 ∧
 m [Value.int IntKind.i64 (IntKind.i64.wrap (x + 1))] w'_1 <
 m [Value.int IntKind.i64 x] w')))
 (R (Ending.returned (Value.int IntKind.i64 0)) w')))
theorem vc_xwrong (p : Option Addr) (n : Nat) (c : Nat) (q : Option Addr) (k : Nat) (d : Nat) (now : Int) (budget : Int) (w : World) (R : Ending → World → Prop) (h : VC_xwrong p n c q k d now budget w R) : Calls Try.prog 39 ([Value.slice
    p n c,
  Value.slice q k d, Value.int IntKind.i64 now, Value.int IntKind.i64 budget] : List Value).toArray w R := by
  have e : execR2 { P := Try.prog, loops := [(7, [(10, Ck.int IntKind.i64)])], pur := pur2, tails := [(12, 5)], joins := [], boxes := [] } Try.f39.results.toList R (Try.f39.body.getD .skip) (initF [Value.slice
    p n c,
  Value.slice q k d, Value.int IntKind.i64 now,
  Value.int IntKind.i64
    budget] (Try.f39.ntmps - ([Value.slice p n c, Value.slice q k d, Value.int IntKind.i64 now,
  Value.int IntKind.i64 budget] : List Value).length)) w = VC_xwrong p n c q k d now budget w R := by kernel_rfl
  have hb : Try.f39.body = some (Try.f39.body.getD .skip) := by kernel_rfl
  exact calls_of_exec2' (P := Try.prog) (fn := Try.f39) (c := Try.f39.body.getD .skip) (args := [Value.slice p n c,
  Value.slice q k d, Value.int IntKind.i64 now,
  Value.int IntKind.i64 budget]) (w := w) (R := R) pur2_ok Try.func39 hb e h

def VC_xplan (p : Option Addr) (n : Nat) (c : Nat) (q : Option Addr) (k : Nat) (d : Nat) (now : Int) (budget : Int) (w : World) (R : Ending → World → Prop) : Prop :=
 CallsS Try.prog 39 #[Value.slice p n c, Value.slice q k d, Value.int IntKind.i64 now, Value.int IntKind.i64 budget] w
 fun (e : Ending) (w' : World) =>
 ∃ (x : Int),
 e = Ending.returned (Value.int IntKind.i64 x) ∧
 KeptL [] w w' ∧
 bsp (x != 0)
 (R (Ending.returned (Value.tuple #[Value.slice none 0 0, Value.slice none 0 0, Value.int IntKind.i64 x])) w')
 (∀ (n_1 : Nat) (W : World),
 Loc w.heap.size [Blk.mk n_1 48 [] 2] w' W →
 ∃ (base : Nat),
 ∃ (xs : List Value),
 ∃ (news : List Value),
 W.ownsRow base 48 39 (Value.slice (some (Addr.mk n_1 0 none)) 0 0) 0 xs ∧
 news.length = k * 39 ∧
 SrcP W q news ∧
 0 + k ≤ 9223372036854775807 ∧
 (0 + k) * 120 ≤ 140737488355328 ∧
 base ≤ W.heap.size ∧
 ∀ (p' : Option Addr) (c' : Nat) (w' : World),
 w'.ownsRow base 48 39 (Value.slice p' (0 + k) c') (0 + k) (xs ++ news) →
 W.grownBy w' (Value.slice (some (Addr.mk n_1 0 none)) 0 0).ownBlock →
 (0 + k ≤ 0 → p' = some (Addr.mk n_1 0 none) ∧ c' = 0) →
 KeptL [] W w' ∧
 ∃ (I : List Value → World → Prop),
 ∃ (m : List Value → World → Nat),
 I [Value.slice p' (0 + k) c', Value.int IntKind.i64 1, Value.slice none 0 0] w' ∧
 ∀ (p_1 : Option Addr) (n_2 c_1 : Nat) (x : Int) (p_2 : Option Addr) (n_3 c_2 : Nat)
 (w' : World),
 I [Value.slice p_1 n_2 c_1, Value.int IntKind.i64 x, Value.slice p_2 n_3 c_2] w' →
 bsp (decide (x ≤ 3))
 (∃ (I_1 : List Value → World → Prop),
 ∃ (m_1 : List Value → World → Nat),
 I_1 [Value.int IntKind.i64 0, Value.int IntKind.i64 (-1)] w' ∧
 ∀ (x_1 x_2 : Int) (w'_1 : World),
 I_1 [Value.int IntKind.i64 x_1, Value.int IntKind.i64 x_2] w'_1 →
 bsp (decide (x_1 < (↑n_2 : Int)))
 (∀ (W : World),
 Loc w.heap.size [] w'_1 W →
 ∃ (S : World → Prop),
 S W ∧
 bsp (!decide (x < 3))
 (CallsS Try.prog 40 #[Value.slice p_1 n_2 c_1] W fun (e : Ending) (w' : World) =>
 ∃ (x_3 : Int),
 e = Ending.returned (Value.int IntKind.i64 x_3) ∧
 S w' ∧
 nn (false || decide (x_3 > budget)) p_1 fun (b o : Nat) =>
 gimp (false || decide (x_3 > budget)) (0 ≤ x_1 ∧ x_1 < (↑n_2 : Int)) ∧
 ∃ (f : Nat → Int),
 ∃ (x_4 : Int),
 ∃ (x_5 : Int),
 ∃ (p_3 : Option Addr),
 ∃ (n_4 : Nat),
 ∃ (c_3 : Nat),
 ∃ (x_6 : Int),
 ∃ (x_7 : Int),
 ∃ (p_4 : Option Addr),
 ∃ (n_5 : Nat),
 ∃ (c_4 : Nat),
 ∃ (x_8 : Bool),
 gimp (false || decide (x_3 > budget))
 (∀ (w' : World),
 S w' →
 AtL w' b (o + x_1.toNat * 39)
 (arrI IntKind.u8 f 32 0 ++ [Value.int IntKind.i64 x_4, Value.int IntKind.i64 x_5,
 Value.slice p_3 n_4 c_3, Value.int IntKind.i64 x_6,
 Value.int IntKind.i64 x_7, Value.slice p_4 n_5 c_4,
 Value.bool x_8])) ∧
 bsp (false || decide (x_3 > budget))
 (CallsS Try.prog 41
 #[Value.slice p n c, Value.slice p_1 n_2 c_1,
 Value.agg
 (arrI IntKind.u8 f 32 0 ++ [Value.int IntKind.i64 x_4, Value.int IntKind.i64 x_5,
 Value.slice p_3 n_4 c_3, Value.int IntKind.i64 x_6,
 Value.int IntKind.i64 x_7, Value.slice p_4 n_5 c_4,
 Value.bool x_8]).toArray,
 Value.int IntKind.i64 now, Value.int IntKind.i64 x]
 w' fun (e : Ending) (w' : World) =>
 ∃ (x : Bool),
 e = Ending.returned (Value.bool x) ∧
 S w' ∧
 nn (true && x && !decide (x_2 < 0)) p_1 fun (b o : Nat) =>
 gimp (true && x && !decide (x_2 < 0))
 (0 ≤ x_1 ∧ x_1 < (↑n_2 : Int)) ∧
 ∃ (f : Nat → Int),
 ∃ (x_9 : Int),
 ∃ (x_10 : Int),
 ∃ (p : Option Addr),
 ∃ (n : Nat),
 ∃ (c : Nat),
 ∃ (x_11 : Int),
 ∃ (x_12 : Int),
 ∃ (p_5 : Option Addr),
 ∃ (n_6 : Nat),
 ∃ (c_5 : Nat),
 ∃ (x_13 : Bool),
 gimp (true && x && !decide (x_2 < 0))
 (∀ (w' : World),
 S w' →
 AtL w' b (o + x_1.toNat * 39)
 (arrI IntKind.u8 f 32 0 ++ [Value.int IntKind.i64 x_9,
 Value.int IntKind.i64 x_10,
 Value.slice p n c,
 Value.int IntKind.i64 x_11,
 Value.int IntKind.i64 x_12,
 Value.slice p_5 n_6 c_5,
 Value.bool x_13])) ∧
 nn (true && x && !decide (x_2 < 0)) p_1
 fun (b o : Nat) =>
 gimp (true && x && !decide (x_2 < 0))
 (0 ≤ x_2 ∧ x_2 < (↑n_2 : Int)) ∧
 ∃ (f_1 : Nat → Int),
 ∃ (x_14 : Int),
 ∃ (x_15 : Int),
 ∃ (p_6 : Option Addr),
 ∃ (n_7 : Nat),
 ∃ (c_6 : Nat),
 ∃ (x_16 : Int),
 ∃ (x_17 : Int),
 ∃ (p_7 : Option Addr),
 ∃ (n_8 : Nat),
 ∃ (c_7 : Nat),
 ∃ (x_18 : Bool),
 gimp
 (true && x &&
 !decide (x_2 < 0))
 (∀ (w' : World),
 S w' →
 AtL w' b
 (o + x_2.toNat * 39)
 (arrI IntKind.u8 f_1 32 0 ++ [Value.int IntKind.i64
 x_14,
 Value.int IntKind.i64
 x_15,
 Value.slice p_6 n_7
 c_6,
 Value.int IntKind.i64
 x_16,
 Value.int IntKind.i64
 x_17,
 Value.slice p_7 n_8
 c_7,
 Value.bool x_18])) ∧
 bsp (true && x)
 (bsp (!decide (x_2 < 0))
 (CallsS Try.prog 42
 #[Value.agg
 (arrI IntKind.u8 f 32 0 ++ [Value.int IntKind.i64
 x_9,
 Value.int IntKind.i64
 x_10,
 Value.slice p n c,
 Value.int IntKind.i64
 x_11,
 Value.int IntKind.i64
 x_12,
 Value.slice p_5 n_6
 c_5,
 Value.bool x_13]).toArray,
 Value.agg
 (arrI IntKind.u8 f_1 32 0 ++ [Value.int IntKind.i64
 x_14,
 Value.int IntKind.i64
 x_15,
 Value.slice p_6 n_7
 c_6,
 Value.int IntKind.i64
 x_16,
 Value.int IntKind.i64
 x_17,
 Value.slice p_7 n_8
 c_7,
 Value.bool x_18]).toArray]
 w'
 fun (e : Ending)
 (w' : World) =>
 ∃ (x : Bool),
 e =
 Ending.returned
 (Value.bool x) ∧
 KeptL [] W w' ∧
 bsp
 (true &&
 (false || x))
 (I_1
 [Value.int
 IntKind.i64
 (IntKind.i64.wrap
 (x_1 + 1)),
 Value.int
 IntKind.i64 x_1]
 w' ∧
 m_1
 [Value.int
 IntKind.i64
 (IntKind.i64.wrap
 (x_1 + 1)),
 Value.int
 IntKind.i64 x_1]
 w' <
 m_1
 [Value.int
 IntKind.i64 x_1,
 Value.int
 IntKind.i64 x_2]
 w'_1)
 (I_1
 [Value.int
 IntKind.i64
 (IntKind.i64.wrap
 (x_1 + 1)),
 Value.int
 IntKind.i64 x_2]
 w' ∧
 m_1
 [Value.int
 IntKind.i64
 (IntKind.i64.wrap
 (x_1 + 1)),
 Value.int
 IntKind.i64 x_2]
 w' <
 m_1
 [Value.int
 IntKind.i64 x_1,
 Value.int
 IntKind.i64 x_2]
 w'_1))
 (KeptL [] W w' ∧
 I_1
 [Value.int IntKind.i64
 (IntKind.i64.wrap
 (x_1 + 1)),
 Value.int IntKind.i64
 x_1]
 w' ∧
 m_1
 [Value.int IntKind.i64
 (IntKind.i64.wrap
 (x_1 + 1)),
 Value.int IntKind.i64
 x_1]
 w' <
 m_1
 [Value.int IntKind.i64
 x_1,
 Value.int IntKind.i64
 x_2]
 w'_1))
 (KeptL [] W w' ∧
 I_1
 [Value.int IntKind.i64
 (IntKind.i64.wrap
 (x_1 + 1)),
 Value.int IntKind.i64
 x_2]
 w' ∧
 m_1
 [Value.int IntKind.i64
 (IntKind.i64.wrap
 (x_1 + 1)),
 Value.int IntKind.i64
 x_2]
 w' <
 m_1
 [Value.int IntKind.i64
 x_1,
 Value.int IntKind.i64
 x_2]
 w'_1))
 (S w' ∧
 nn (false && !decide (x_2 < 0)) p_1 fun (b o : Nat) =>
 True ∧
 ∃ (f : Nat → Int),
 ∃ (x : Int),
 ∃ (x : Int),
 ∃ (p : Option Addr),
 ∃ (n : Nat),
 ∃ (c : Nat),
 ∃ (x : Int),
 ∃ (x : Int),
 ∃ (p : Option Addr),
 ∃ (n : Nat),
 ∃ (c : Nat),
 ∃ (x : Bool),
 True ∧
 nn (false && !decide (x_2 < 0)) p_1
 fun (b o : Nat) =>
 True ∧
 ∃ (f : Nat → Int),
 ∃ (x : Int),
 ∃ (x : Int),
 ∃ (p : Option Addr),
 ∃ (n : Nat),
 ∃ (c : Nat),
 ∃ (x : Int),
 ∃ (x : Int),
 ∃ (p : Option Addr),
 ∃ (n : Nat),
 ∃ (c : Nat),
 ∃ (x : Bool),
 True ∧
 KeptL [] W w' ∧
 I_1
 [Value.int IntKind.i64
 (IntKind.i64.wrap
 (x_1 + 1)),
 Value.int IntKind.i64 x_2]
 w' ∧
 m_1
 [Value.int IntKind.i64
 (IntKind.i64.wrap
 (x_1 + 1)),
 Value.int IntKind.i64 x_2]
 w' <
 m_1
 [Value.int IntKind.i64 x_1,
 Value.int IntKind.i64 x_2]
 w'_1))
 (S W ∧
 nn true p_1 fun (b o : Nat) =>
 (0 ≤ x_1 ∧ x_1 < (↑n_2 : Int)) ∧
 ∃ (f : Nat → Int),
 ∃ (x_3 : Int),
 ∃ (x_4 : Int),
 ∃ (p_3 : Option Addr),
 ∃ (n_4 : Nat),
 ∃ (c_3 : Nat),
 ∃ (x_5 : Int),
 ∃ (x_6 : Int),
 ∃ (p_4 : Option Addr),
 ∃ (n_5 : Nat),
 ∃ (c_4 : Nat),
 ∃ (x_7 : Bool),
 (∀ (w' : World),
 S w' →
 AtL w' b (o + x_1.toNat * 39)
 (arrI IntKind.u8 f 32 0 ++ [Value.int IntKind.i64 x_3, Value.int IntKind.i64 x_4,
 Value.slice p_3 n_4 c_3, Value.int IntKind.i64 x_5,
 Value.int IntKind.i64 x_6, Value.slice p_4 n_5 c_4,
 Value.bool x_7])) ∧
 CallsS Try.prog 41
 #[Value.slice p n c, Value.slice p_1 n_2 c_1,
 Value.agg
 (arrI IntKind.u8 f 32 0 ++ [Value.int IntKind.i64 x_3, Value.int IntKind.i64 x_4,
 Value.slice p_3 n_4 c_3, Value.int IntKind.i64 x_5,
 Value.int IntKind.i64 x_6, Value.slice p_4 n_5 c_4,
 Value.bool x_7]).toArray,
 Value.int IntKind.i64 now, Value.int IntKind.i64 x]
 W fun (e : Ending) (w' : World) =>
 ∃ (x : Bool),
 e = Ending.returned (Value.bool x) ∧
 S w' ∧
 nn (true && x && !decide (x_2 < 0)) p_1 fun (b o : Nat) =>
 gimp (true && x && !decide (x_2 < 0))
 (0 ≤ x_1 ∧ x_1 < (↑n_2 : Int)) ∧
 ∃ (f : Nat → Int),
 ∃ (x_8 : Int),
 ∃ (x_9 : Int),
 ∃ (p : Option Addr),
 ∃ (n : Nat),
 ∃ (c : Nat),
 ∃ (x_10 : Int),
 ∃ (x_11 : Int),
 ∃ (p_5 : Option Addr),
 ∃ (n_6 : Nat),
 ∃ (c_5 : Nat),
 ∃ (x_12 : Bool),
 gimp (true && x && !decide (x_2 < 0))
 (∀ (w' : World),
 S w' →
 AtL w' b (o + x_1.toNat * 39)
 (arrI IntKind.u8 f 32 0 ++ [Value.int IntKind.i64 x_8,
 Value.int IntKind.i64 x_9,
 Value.slice p n c,
 Value.int IntKind.i64 x_10,
 Value.int IntKind.i64 x_11,
 Value.slice p_5 n_6 c_5,
 Value.bool x_12])) ∧
 nn (true && x && !decide (x_2 < 0)) p_1
 fun (b o : Nat) =>
 gimp (true && x && !decide (x_2 < 0))
 (0 ≤ x_2 ∧ x_2 < (↑n_2 : Int)) ∧
 ∃ (f_1 : Nat → Int),
 ∃ (x_13 : Int),
 ∃ (x_14 : Int),
 ∃ (p_6 : Option Addr),
 ∃ (n_7 : Nat),
 ∃ (c_6 : Nat),
 ∃ (x_15 : Int),
 ∃ (x_16 : Int),
 ∃ (p_7 : Option Addr),
 ∃ (n_8 : Nat),
 ∃ (c_7 : Nat),
 ∃ (x_17 : Bool),
 gimp
 (true && x &&
 !decide (x_2 < 0))
 (∀ (w' : World),
 S w' →
 AtL w' b (o + x_2.toNat * 39)
 (arrI IntKind.u8 f_1 32 0 ++ [Value.int IntKind.i64 x_13,
 Value.int IntKind.i64 x_14,
 Value.slice p_6 n_7 c_6,
 Value.int IntKind.i64 x_15,
 Value.int IntKind.i64 x_16,
 Value.slice p_7 n_8 c_7,
 Value.bool x_17])) ∧
 bsp (true && x)
 (bsp (!decide (x_2 < 0))
 (CallsS Try.prog 42
 #[Value.agg
 (arrI IntKind.u8 f 32 0 ++ [Value.int IntKind.i64 x_8,
 Value.int IntKind.i64 x_9,
 Value.slice p n c,
 Value.int IntKind.i64
 x_10,
 Value.int IntKind.i64
 x_11,
 Value.slice p_5 n_6 c_5,
 Value.bool x_12]).toArray,
 Value.agg
 (arrI IntKind.u8 f_1 32 0 ++ [Value.int IntKind.i64
 x_13,
 Value.int IntKind.i64
 x_14,
 Value.slice p_6 n_7 c_6,
 Value.int IntKind.i64
 x_15,
 Value.int IntKind.i64
 x_16,
 Value.slice p_7 n_8 c_7,
 Value.bool x_17]).toArray]
 w'
 fun (e : Ending)
 (w' : World) =>
 ∃ (x : Bool),
 e =
 Ending.returned
 (Value.bool x) ∧
 KeptL [] W w' ∧
 bsp (true && (false || x))
 (I_1
 [Value.int IntKind.i64
 (IntKind.i64.wrap
 (x_1 + 1)),
 Value.int IntKind.i64
 x_1]
 w' ∧
 m_1
 [Value.int IntKind.i64
 (IntKind.i64.wrap
 (x_1 + 1)),
 Value.int IntKind.i64
 x_1]
 w' <
 m_1
 [Value.int IntKind.i64
 x_1,
 Value.int IntKind.i64
 x_2]
 w'_1)
 (I_1
 [Value.int IntKind.i64
 (IntKind.i64.wrap
 (x_1 + 1)),
 Value.int IntKind.i64
 x_2]
 w' ∧
 m_1
 [Value.int IntKind.i64
 (IntKind.i64.wrap
 (x_1 + 1)),
 Value.int IntKind.i64
 x_2]
 w' <
 m_1
 [Value.int IntKind.i64
 x_1,
 Value.int IntKind.i64
 x_2]
 w'_1))
 (KeptL [] W w' ∧
 I_1
 [Value.int IntKind.i64
 (IntKind.i64.wrap
 (x_1 + 1)),
 Value.int IntKind.i64 x_1]
 w' ∧
 m_1
 [Value.int IntKind.i64
 (IntKind.i64.wrap
 (x_1 + 1)),
 Value.int IntKind.i64
 x_1]
 w' <
 m_1
 [Value.int IntKind.i64
 x_1,
 Value.int IntKind.i64
 x_2]
 w'_1))
 (KeptL [] W w' ∧
 I_1
 [Value.int IntKind.i64
 (IntKind.i64.wrap
 (x_1 + 1)),
 Value.int IntKind.i64 x_2]
 w' ∧
 m_1
 [Value.int IntKind.i64
 (IntKind.i64.wrap
 (x_1 + 1)),
 Value.int IntKind.i64 x_2]
 w' <
 m_1
 [Value.int IntKind.i64 x_1,
 Value.int IntKind.i64 x_2]
 w'_1)))
 (bsp (decide (x_2 < 0))
 (I
 [Value.slice p_1 n_2 c_1, Value.int IntKind.i64 (IntKind.i64.wrap (x + 1)),
 Value.slice p_2 n_3 c_2]
 w'_1 ∧
 m
 [Value.slice p_1 n_2 c_1, Value.int IntKind.i64 (IntKind.i64.wrap (x + 1)),
 Value.slice p_2 n_3 c_2]
 w'_1 <
 m [Value.slice p_1 n_2 c_1, Value.int IntKind.i64 x, Value.slice p_2 n_3 c_2] w')
 (nn true p_1 fun (b o : Nat) =>
 (0 ≤ x_2 ∧ x_2 < (↑n_2 : Int)) ∧
 ∃ (f : Nat → Int),
 AtL w'_1 b (o + x_2.toNat * 39)
 (arrI IntKind.u8 f 32 0) ∧
 ∀ (n : Nat) (W : World),
 Loc w.heap.size
 [Blk.mk n 96
 (arrI IntKind.u8 f 32 0 ++ [Value.int IntKind.i64 x])
 2]
 w'_1 W →
 ∃ (base : Nat),
 ∃ (xs : List Value),
 W.ownsRow base 96 33 (Value.slice p_2 n_3 c_2) n_3 xs ∧
 n_3 + 1 ≤ 9223372036854775807 ∧
 (n_3 + 1) * 40 ≤ 140737488355328 ∧
 base ≤ W.heap.size ∧
 ∀ (p' : Option Addr) (c' : Nat) (w'_2 : World),
 w'_2.ownsRow base 96 33 (Value.slice p' (n_3 + 1) c') (n_3 + 1)
 (xs ++
 (arrI IntKind.u8 f 32 0 ++ [Value.int IntKind.i64 x])) →
 W.grownBy w'_2 (Value.slice p_2 n_3 c_2).ownBlock →
 (n_3 + 1 ≤ c_2 → p' = p_2 ∧ c' = c_2) →
 KeptL [] W w'_2 ∧
 ∀ (W : World),
 Loc w.heap.size [] w'_2 W →
 ∃ (S : World → Prop),
 S W ∧
 (0 ≤ x_2 ∧ x_2 ≤ (↑c_1 : Int)) ∧
 (0 ≤ IntKind.i64.wrap (x_2 + 1) ∧
 IntKind.i64.wrap (x_2 + 1) ≤ (↑n_2 : Int)) ∧
 ∀ (n : Nat) (w1 : World),
 NewB W (Obj.cells #[] 48) n w1 →
 ∃ (base : Nat),
 ∃ (xs : List Value),
 ∃ (news : List Value),
 w1.ownsRow base 48 39
 (Value.slice (some (Addr.mk n 0 none)) 0 0) 0 xs ∧
 news.length = x_2.toNat * 39 ∧
 SrcP w1 p_1 news ∧
 0 + x_2.toNat ≤ 9223372036854775807 ∧
 (0 + x_2.toNat) * 120 ≤ 140737488355328 ∧
 base ≤ w1.heap.size ∧
 ∀ (p'_1 : Option Addr) (c'_1 : Nat) (w'_3 : World),
 w'_3.ownsRow base 48 39
 (Value.slice p'_1 (0 + x_2.toNat) c'_1)
 (0 + x_2.toNat) (xs ++ news) →
 w1.grownBy w'_3
 (Value.slice (some (Addr.mk n 0 none)) 0
 0).ownBlock →
 (0 + x_2.toNat ≤ 0 →
 p'_1 = some (Addr.mk n 0 none) ∧ c'_1 = 0) →
 ∃ (base : Nat),
 ∃ (xs : List Value),
 ∃ (news : List Value),
 w'_3.ownsRow base 48 39
 (Value.slice p'_1 (0 + x_2.toNat) c'_1)
 (0 + x_2.toNat) xs ∧
 news.length =
 (n_2 -
 (IntKind.i64.wrap (x_2 + 1)).toNat) *
 39 ∧
 SrcP w'_3
 (slA p_1 c_1
 (IntKind.i64.wrap (x_2 + 1)).toNat 39)
 news ∧
 0 + x_2.toNat +
 (n_2 -
 (IntKind.i64.wrap (x_2 + 1)).toNat) ≤
 9223372036854775807 ∧
 (0 + x_2.toNat +
 (n_2 -
 (IntKind.i64.wrap
 (x_2 + 1)).toNat)) *
 120 ≤
 140737488355328 ∧
 base ≤ w'_3.heap.size ∧
 ∀ (p'_2 : Option Addr) (c'_2 : Nat)
 (w'_4 : World),
 w'_4.ownsRow base 48 39
 (Value.slice p'_2
 (0 + x_2.toNat +
 (n_2 -
 (IntKind.i64.wrap
 (x_2 + 1)).toNat))
 c'_2)
 (0 + x_2.toNat +
 (n_2 -
 (IntKind.i64.wrap
 (x_2 + 1)).toNat))
 (xs ++ news) →
 w'_3.grownBy w'_4
 (Value.slice p'_1 (0 + x_2.toNat)
 c'_1).ownBlock →
 (0 + x_2.toNat +
 (n_2 -
 (IntKind.i64.wrap
 (x_2 + 1)).toNat) ≤
 c'_1 →
 p'_2 = p'_1 ∧ c'_2 = c'_1) →
 KeptL [] W w'_4 ∧
 I
 [Value.slice p'_2
 (0 + x_2.toNat +
 (n_2 -
 (IntKind.i64.wrap
 (x_2 + 1)).toNat))
 c'_2,
 Value.int IntKind.i64 1,
 Value.slice p' (n_3 + 1) c']
 w'_4 ∧
 m
 [Value.slice p'_2
 (0 + x_2.toNat +
 (n_2 -
 (IntKind.i64.wrap
 (x_2 + 1)).toNat))
 c'_2,
 Value.int IntKind.i64 1,
 Value.slice p' (n_3 + 1) c']
 w'_4 <
 m
 [Value.slice p_1 n_2 c_1,
 Value.int IntKind.i64 x,
 Value.slice p_2 n_3 c_2]
 w')))
 (R
 (Ending.returned
 (Value.tuple #[Value.slice p_2 n_3 c_2, Value.slice p_1 n_2 c_1, Value.int IntKind.i64 0]))
 w'))
theorem vc_xplan (p : Option Addr) (n : Nat) (c : Nat) (q : Option Addr) (k : Nat) (d : Nat) (now : Int) (budget : Int) (w : World) (R : Ending → World → Prop) (h : VC_xplan p n c q k d now budget w R) : Calls Try.prog 23 ([Value.slice
    p n c,
  Value.slice q k d, Value.int IntKind.i64 now, Value.int IntKind.i64 budget] : List Value).toArray w R := by
  have e : execR2 { P := Try.prog, loops := [(7, [(13, Ck.slice), (14, Ck.int IntKind.i64), (12, Ck.slice)]), (10, [(16, Ck.int IntKind.i64), (15, Ck.int IntKind.i64)])], pur := pur2, tails := [(12, 4), (17, 0)], joins := [], boxes := [] } Try.f23.results.toList R (Try.f23.body.getD .skip) (initF [Value.slice
    p n c,
  Value.slice q k d, Value.int IntKind.i64 now,
  Value.int IntKind.i64
    budget] (Try.f23.ntmps - ([Value.slice p n c, Value.slice q k d, Value.int IntKind.i64 now,
  Value.int IntKind.i64 budget] : List Value).length)) w = VC_xplan p n c q k d now budget w R := by kernel_rfl
  have hb : Try.f23.body = some (Try.f23.body.getD .skip) := by kernel_rfl
  exact calls_of_exec2' (P := Try.prog) (fn := Try.f23) (c := Try.f23.body.getD .skip) (args := [Value.slice p n c,
  Value.slice q k d, Value.int IntKind.i64 now,
  Value.int IntKind.i64 budget]) (w := w) (R := R) pur2_ok Try.func23 hb e h

end Go.Proofs.Ytmjanmffnblcoaa
