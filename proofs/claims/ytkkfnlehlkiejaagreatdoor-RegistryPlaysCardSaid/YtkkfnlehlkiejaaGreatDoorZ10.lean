/- The formulas of functions by the symbolic evaluator, and that each gives the call's contract. Written by a program (gen.py). No condition. -/
import Derived.Test.YtkkfnlehlkiejaaGreatDoorProg
import Derived.Test.YtkkfnlehlkiejaaGreatDoorZ02
import Derived.Test.YtkkfnlehlkiejaaGreatDoorZ03
import Derived.Test.YtkkfnlehlkiejaaGreatDoorZ05
import Derived.KernelRfl
import Derived.Test.YtkkfnlehlkiejaaGreatDoorZ08
import Derived.Test.YtkkfnlehlkiejaaGreatDoorZ09
namespace Go.Proofs.YtkkfnlehlkiejaaGreatDoor
set_option maxRecDepth 100000
set_option linter.unusedVariables false

def VC_xcheck (id : Nat → Int) (au : Nat → Int) (g : ByteArray) (v : Int) (rm : Bool) (md : Bool) (p : Option Addr) (n : Nat) (c : Nat) (t : ByteArray) (w : World) (R : Ending → World → Prop) : Prop :=
 ∀ (n_1 : Nat) (W : World),
 Loc w.heap.size
 [Blk.mk n_1 50
 (arrI IntKind.u8 id 32 0 ++ (arrI IntKind.u8 au 16 0 ++ [Value.string g,
 Value.int IntKind.i64 v, Value.bool rm, Value.bool md, Value.slice p n c, Value.string t]))
 2]
 w W →
 CallsS Tryz.prog 55 #[Value.string g] W fun (e : Ending) (w' : World) =>
 ∃ (x : Int),
 e = Ending.returned (Value.int IntKind.i64 x) ∧
 KeptL [n_1] W w' ∧
 bsp (x != 0) (R (Ending.returned (Value.int IntKind.i64 x)) w')
 (∃ (x : Int),
 gimp (!decide (v < 0)) (w'.cell? (Addr.mk n_1 (0 + 49) none) = some (Value.int IntKind.i64 x)) ∧
 bsp (decide (v < 0) || decide (x > 1000000)) (R (Ending.returned (Value.int IntKind.i64 2)) w')
 (∃ (x : Bool),
 gimp rm (w'.cell? (Addr.mk n_1 (0 + 51) none) = some (Value.bool x)) ∧
 ∃ (p_1 : Option Addr),
 ∃ (n_2 : Nat),
 ∃ (c_1 : Nat),
 gimp (rm && !x) (w'.cell? (Addr.mk n_1 (0 + 52) none) = some (Value.slice p_1 n_2 c_1)) ∧
 ∃ (x_1 : ByteArray),
 gimp (rm && !(x || decide ((↑n_2 : Int) > 0)))
 (w'.cell? (Addr.mk n_1 (0 + 53) none) = some (Value.string x_1)) ∧
 bsp (rm && (x || decide ((↑n_2 : Int) > 0) || !x_1.toList == []))
 (R (Ending.returned (Value.int IntKind.i64 3)) w')
 (bsp (decide ((↑n : Int) > 8)) (R (Ending.returned (Value.int IntKind.i64 9)) w')
 (∃ (I : List Value → World → Prop),
 ∃ (m : List Value → World → Nat),
 I [Value.int IntKind.i64 0] w' ∧
 ∀ (x : Int) (w' : World),
 I [Value.int IntKind.i64 x] w' →
 Loc w.heap.size
 [Blk.mk n_1 50
 (arrI IntKind.u8 id 32 0 ++ (arrI IntKind.u8 au 16 0 ++ [Value.string g, Value.int IntKind.i64 v, Value.bool rm, Value.bool md, Value.slice p n c,
 Value.string t]))
 0]
 w' w' →
 bsp (decide (x < (↑n : Int)))
 (∃ (I_1 : List Value → World → Prop),
 ∃ (m_1 : List Value → World → Nat),
 I_1 [Value.int IntKind.i64 0] w' ∧
 ∀ (x_2 : Int) (w'_1 : World),
 I_1 [Value.int IntKind.i64 x_2] w'_1 →
 Loc w.heap.size
 [Blk.mk n_1 50
 (arrI IntKind.u8 id 32 0 ++ (arrI IntKind.u8 au 16 0 ++ [Value.string g,
 Value.int IntKind.i64 v, Value.bool rm, Value.bool md, Value.slice p n c,
 Value.string t]))
 0]
 w'_1 w'_1 →
 bsp (decide (x_2 < x))
 (nn true p fun (b o : Nat) =>
 (0 ≤ x_2 ∧ x_2 < (↑n : Int)) ∧
 ∃ (f : Nat → Int),
 (∀ (W : World),
 Loc w.heap.size
 [Blk.mk n_1 50
 (arrI IntKind.u8 id 32 0 ++ (arrI IntKind.u8 au 16 0 ++ [Value.string g,
 Value.int IntKind.i64 v, Value.bool rm, Value.bool md, Value.slice p n c,
 Value.string t]))
 0]
 w'_1 W →
 AtL W b (o + x_2.toNat * 16)
 (arrI IntKind.u8 f 16 0)) ∧
 nn true p fun (b o : Nat) =>
 (0 ≤ x ∧ x < (↑n : Int)) ∧
 ∃ (f_1 : Nat → Int),
 (∀ (W : World),
 Loc w.heap.size
 [Blk.mk n_1 50
 (arrI IntKind.u8 id 32 0 ++ (arrI IntKind.u8 au 16 0 ++ [Value.string g, Value.int IntKind.i64 v, Value.bool rm, Value.bool md,
 Value.slice p n c, Value.string t]))
 0]
 w'_1 W →
 AtL W b (o + x.toNat * 16)
 (arrI IntKind.u8 f_1 16 0)) ∧
 ∃ (r : Bool),
 EqP Tryz.prog 23
 (Value.agg
 (arrI IntKind.u8 f 16 0).toArray)
 (Value.agg
 (arrI IntKind.u8 f_1 16 0).toArray)
 r ∧
 bsp r
 (∀ (W : World),
 Loc w.heap.size
 [Blk.mk n_1 50
 (arrI IntKind.u8 id 32 0 ++ (arrI IntKind.u8 au 16 0 ++ [Value.string g, Value.int IntKind.i64 v, Value.bool rm,
 Value.bool md, Value.slice p n c, Value.string t]))
 0]
 w'_1 W →
 R (Ending.returned (Value.int IntKind.i64 7)) W)
 (∀ (W : World),
 Loc w.heap.size
 [Blk.mk n_1 50
 (arrI IntKind.u8 id 32 0 ++ (arrI IntKind.u8 au 16 0 ++ [Value.string g, Value.int IntKind.i64 v, Value.bool rm,
 Value.bool md, Value.slice p n c, Value.string t]))
 0]
 w'_1 W →
 I_1 [Value.int IntKind.i64 (IntKind.i64.wrap (x_2 + 1))] W ∧
 m_1 [Value.int IntKind.i64 (IntKind.i64.wrap (x_2 + 1))] W <
 m_1 [Value.int IntKind.i64 x_2] w'_1))
 (I [Value.int IntKind.i64 (IntKind.i64.wrap (x + 1))] w'_1 ∧
 m [Value.int IntKind.i64 (IntKind.i64.wrap (x + 1))] w'_1 <
 m [Value.int IntKind.i64 x] w'))
 (bsp (decide ((↑t.size : Int) > 200)) (R (Ending.returned (Value.int IntKind.i64 5)) w')
 (R (Ending.returned (Value.int IntKind.i64 0)) w'))))))
theorem vc_xcheck (id : Nat → Int) (au : Nat → Int) (g : ByteArray) (v : Int) (rm : Bool) (md : Bool) (p : Option Addr) (n : Nat) (c : Nat) (t : ByteArray) (w : World) (R : Ending → World → Prop) (h : VC_xcheck id au g v rm md p n c t w R) : Calls Tryz.prog 25 ([Value.agg
    (arrI IntKind.u8 id 32 0 ++
        (arrI IntKind.u8 au 16 0 ++
          [Value.string g, Value.int IntKind.i64 v, Value.bool rm, Value.bool md, Value.slice p n c,
            Value.string t])).toArray] : List Value).toArray w R := by
  have e : execR2 { P := Tryz.prog, loops := [(11, [(4, Ck.int IntKind.i64)]), (14, [(5, Ck.int IntKind.i64)])], pur := pur1, tails := [], joins := [], boxes := [] } Tryz.f25.results.toList R (Tryz.f25.body.getD .skip) (initF [Value.agg
    (arrI IntKind.u8 id 32 0 ++
        (arrI IntKind.u8 au 16 0 ++
          [Value.string g, Value.int IntKind.i64 v, Value.bool rm, Value.bool md, Value.slice p n c,
            Value.string
              t])).toArray] (Tryz.f25.ntmps - ([Value.agg
    (arrI IntKind.u8 id 32 0 ++
        (arrI IntKind.u8 au 16 0 ++
          [Value.string g, Value.int IntKind.i64 v, Value.bool rm, Value.bool md, Value.slice p n c,
            Value.string t])).toArray] : List Value).length)) w = VC_xcheck id au g v rm md p n c t w R := by kernel_rfl
  have hb : Tryz.f25.body = some (Tryz.f25.body.getD .skip) := by kernel_rfl
  exact calls_of_exec2' (P := Tryz.prog) (fn := Tryz.f25) (c := Tryz.f25.body.getD .skip) (args := [Value.agg
    (arrI IntKind.u8 id 32 0 ++
        (arrI IntKind.u8 au 16 0 ++
          [Value.string g, Value.int IntKind.i64 v, Value.bool rm, Value.bool md, Value.slice p n c,
            Value.string t])).toArray]) (w := w) (R := R) pur1_ok Tryz.func25 hb e h

def VC_xsame (id : Nat → Int) (au : Nat → Int) (g : ByteArray) (v : Int) (rm : Bool) (md : Bool) (p : Option Addr) (n : Nat) (c : Nat) (t : ByteArray) (id2 : Nat → Int) (au2 : Nat → Int) (g2 : ByteArray) (v2 : Int) (rm2 : Bool) (md2 : Bool) (p2 : Option Addr) (n2 : Nat) (c2 : Nat) (t2 : ByteArray) (w : World) (R : Ending → World → Prop) : Prop :=
 ∀ (n_1 n_2 : Nat),
 ∃ (r : Bool),
 EqP Tryz.prog 47
 (Value.agg
 (arrI IntKind.u8 id 32 0).toArray)
 (Value.agg
 (arrI IntKind.u8 id2 32 0).toArray)
 r ∧
 ∃ (f : Nat → Int),
 gimp (!!r)
 (∀ (W : World),
 Loc w.heap.size
 [Blk.mk n_2 50
 (arrI IntKind.u8 id2 32 0 ++ (arrI IntKind.u8 au2 16 0 ++ [Value.string g2, Value.int IntKind.i64 v2, Value.bool rm2, Value.bool md2, Value.slice p2 n2 c2,
 Value.string t2]))
 2,
 Blk.mk n_1 50
 (arrI IntKind.u8 id 32 0 ++ (arrI IntKind.u8 au 16 0 ++ [Value.string g,
 Value.int IntKind.i64 v, Value.bool rm, Value.bool md, Value.slice p n c, Value.string t]))
 2]
 w W →
 AtL W n_1 (0 + 32)
 (arrI IntKind.u8 f 16 0)) ∧
 ∃ (f_1 : Nat → Int),
 gimp (!!r)
 (∀ (W : World),
 Loc w.heap.size
 [Blk.mk n_2 50
 (arrI IntKind.u8 id2 32 0 ++ (arrI IntKind.u8 au2 16 0 ++ [Value.string g2, Value.int IntKind.i64 v2, Value.bool rm2, Value.bool md2, Value.slice p2 n2 c2,
 Value.string t2]))
 2,
 Blk.mk n_1 50
 (arrI IntKind.u8 id 32 0 ++ (arrI IntKind.u8 au 16 0 ++ [Value.string g,
 Value.int IntKind.i64 v, Value.bool rm, Value.bool md, Value.slice p n c, Value.string t]))
 2]
 w W →
 AtL W n_2 (0 + 32)
 (arrI IntKind.u8 f_1 16 0)) ∧
 ∃ (r_1 : Bool),
 gimp (!!r)
 (EqP Tryz.prog 23
 (Value.agg
 (arrI IntKind.u8 f 16 0).toArray)
 (Value.agg
 (arrI IntKind.u8 f_1 16 0).toArray)
 r_1) ∧
 ∃ (x : ByteArray),
 gimp (!(!r || !r_1))
 (∀ (W : World),
 Loc w.heap.size
 [Blk.mk n_2 50
 (arrI IntKind.u8 id2 32 0 ++ (arrI IntKind.u8 au2 16 0 ++ [Value.string g2, Value.int IntKind.i64 v2, Value.bool rm2, Value.bool md2, Value.slice p2 n2 c2,
 Value.string t2]))
 2,
 Blk.mk n_1 50
 (arrI IntKind.u8 id 32 0 ++ (arrI IntKind.u8 au 16 0 ++ [Value.string g, Value.int IntKind.i64 v, Value.bool rm, Value.bool md, Value.slice p n c,
 Value.string t]))
 2]
 w W →
 W.cell? (Addr.mk n_1 (0 + 48) none) = some (Value.string x)) ∧
 ∃ (x_1 : ByteArray),
 gimp (!(!r || !r_1))
 (∀ (W : World),
 Loc w.heap.size
 [Blk.mk n_2 50
 (arrI IntKind.u8 id2 32 0 ++ (arrI IntKind.u8 au2 16 0 ++ [Value.string g2, Value.int IntKind.i64 v2, Value.bool rm2, Value.bool md2, Value.slice p2 n2 c2,
 Value.string t2]))
 2,
 Blk.mk n_1 50
 (arrI IntKind.u8 id 32 0 ++ (arrI IntKind.u8 au 16 0 ++ [Value.string g, Value.int IntKind.i64 v, Value.bool rm, Value.bool md, Value.slice p n c,
 Value.string t]))
 2]
 w W →
 W.cell? (Addr.mk n_2 (0 + 48) none) = some (Value.string x_1)) ∧
 ∃ (x_2 : Int),
 gimp (!(!r || !r_1 || !x.toList == x_1.toList))
 (∀ (W : World),
 Loc w.heap.size
 [Blk.mk n_2 50
 (arrI IntKind.u8 id2 32 0 ++ (arrI IntKind.u8 au2 16 0 ++ [Value.string g2, Value.int IntKind.i64 v2, Value.bool rm2, Value.bool md2, Value.slice p2 n2 c2,
 Value.string t2]))
 2,
 Blk.mk n_1 50
 (arrI IntKind.u8 id 32 0 ++ (arrI IntKind.u8 au 16 0 ++ [Value.string g, Value.int IntKind.i64 v, Value.bool rm, Value.bool md, Value.slice p n c,
 Value.string t]))
 2]
 w W →
 W.cell? (Addr.mk n_1 (0 + 49) none) = some (Value.int IntKind.i64 x_2)) ∧
 ∃ (x_3 : Int),
 gimp (!(!r || !r_1 || !x.toList == x_1.toList))
 (∀ (W : World),
 Loc w.heap.size
 [Blk.mk n_2 50
 (arrI IntKind.u8 id2 32 0 ++ (arrI IntKind.u8 au2 16 0 ++ [Value.string g2, Value.int IntKind.i64 v2, Value.bool rm2, Value.bool md2, Value.slice p2 n2 c2,
 Value.string t2]))
 2,
 Blk.mk n_1 50
 (arrI IntKind.u8 id 32 0 ++ (arrI IntKind.u8 au 16 0 ++ [Value.string g, Value.int IntKind.i64 v, Value.bool rm, Value.bool md, Value.slice p n c,
 Value.string t]))
 2]
 w W →
 W.cell? (Addr.mk n_2 (0 + 49) none) = some (Value.int IntKind.i64 x_3)) ∧
 ∃ (x_4 : Bool),
 gimp (!(!r || !r_1 || !x.toList == x_1.toList || x_2 != x_3))
 (∀ (W : World),
 Loc w.heap.size
 [Blk.mk n_2 50
 (arrI IntKind.u8 id2 32 0 ++ (arrI IntKind.u8 au2 16 0 ++ [Value.string g2, Value.int IntKind.i64 v2, Value.bool rm2, Value.bool md2,
 Value.slice p2 n2 c2, Value.string t2]))
 2,
 Blk.mk n_1 50
 (arrI IntKind.u8 id 32 0 ++ (arrI IntKind.u8 au 16 0 ++ [Value.string g, Value.int IntKind.i64 v, Value.bool rm, Value.bool md, Value.slice p n c,
 Value.string t]))
 2]
 w W →
 W.cell? (Addr.mk n_1 (0 + 50) none) = some (Value.bool x_4)) ∧
 ∃ (x_5 : Bool),
 gimp (!(!r || !r_1 || !x.toList == x_1.toList || x_2 != x_3))
 (∀ (W : World),
 Loc w.heap.size
 [Blk.mk n_2 50
 (arrI IntKind.u8 id2 32 0 ++ (arrI IntKind.u8 au2 16 0 ++ [Value.string g2, Value.int IntKind.i64 v2, Value.bool rm2, Value.bool md2,
 Value.slice p2 n2 c2, Value.string t2]))
 2,
 Blk.mk n_1 50
 (arrI IntKind.u8 id 32 0 ++ (arrI IntKind.u8 au 16 0 ++ [Value.string g, Value.int IntKind.i64 v, Value.bool rm, Value.bool md, Value.slice p n c,
 Value.string t]))
 2]
 w W →
 W.cell? (Addr.mk n_2 (0 + 50) none) = some (Value.bool x_5)) ∧
 ∃ (x_6 : Bool),
 gimp (!(!r || !r_1 || !x.toList == x_1.toList || x_2 != x_3 || !x_4 == x_5))
 (∀ (W : World),
 Loc w.heap.size
 [Blk.mk n_2 50
 (arrI IntKind.u8 id2 32 0 ++ (arrI IntKind.u8 au2 16 0 ++ [Value.string g2, Value.int IntKind.i64 v2, Value.bool rm2,
 Value.bool md2, Value.slice p2 n2 c2, Value.string t2]))
 2,
 Blk.mk n_1 50
 (arrI IntKind.u8 id 32 0 ++ (arrI IntKind.u8 au 16 0 ++ [Value.string g, Value.int IntKind.i64 v, Value.bool rm, Value.bool md, Value.slice p n c,
 Value.string t]))
 2]
 w W →
 W.cell? (Addr.mk n_1 (0 + 51) none) = some (Value.bool x_6)) ∧
 ∃ (x_7 : Bool),
 gimp (!(!r || !r_1 || !x.toList == x_1.toList || x_2 != x_3 || !x_4 == x_5))
 (∀ (W : World),
 Loc w.heap.size
 [Blk.mk n_2 50
 (arrI IntKind.u8 id2 32 0 ++ (arrI IntKind.u8 au2 16 0 ++ [Value.string g2,
 Value.int IntKind.i64 v2, Value.bool rm2, Value.bool md2, Value.slice p2 n2 c2,
 Value.string t2]))
 2,
 Blk.mk n_1 50
 (arrI IntKind.u8 id 32 0 ++ (arrI IntKind.u8 au 16 0 ++ [Value.string g,
 Value.int IntKind.i64 v, Value.bool rm, Value.bool md, Value.slice p n c,
 Value.string t]))
 2]
 w W →
 W.cell? (Addr.mk n_2 (0 + 51) none) = some (Value.bool x_7)) ∧
 ∃ (x_8 : ByteArray),
 gimp (!(!r || !r_1 || !x.toList == x_1.toList || x_2 != x_3 || !x_4 == x_5 || !x_6 == x_7))
 (∀ (W : World),
 Loc w.heap.size
 [Blk.mk n_2 50
 (arrI IntKind.u8 id2 32 0 ++ (arrI IntKind.u8 au2 16 0 ++ [Value.string g2,
 Value.int IntKind.i64 v2, Value.bool rm2, Value.bool md2, Value.slice p2 n2 c2,
 Value.string t2]))
 2,
 Blk.mk n_1 50
 (arrI IntKind.u8 id 32 0 ++ (arrI IntKind.u8 au 16 0 ++ [Value.string g,
 Value.int IntKind.i64 v, Value.bool rm, Value.bool md, Value.slice p n c,
 Value.string t]))
 2]
 w W →
 W.cell? (Addr.mk n_1 (0 + 53) none) = some (Value.string x_8)) ∧
 ∃ (x_9 : ByteArray),
 gimp (!(!r || !r_1 || !x.toList == x_1.toList || x_2 != x_3 || !x_4 == x_5 || !x_6 == x_7))
 (∀ (W : World),
 Loc w.heap.size
 [Blk.mk n_2 50
 (arrI IntKind.u8 id2 32 0 ++ (arrI IntKind.u8 au2 16 0 ++ [Value.string g2,
 Value.int IntKind.i64 v2, Value.bool rm2, Value.bool md2, Value.slice p2 n2 c2,
 Value.string t2]))
 2,
 Blk.mk n_1 50
 (arrI IntKind.u8 id 32 0 ++ (arrI IntKind.u8 au 16 0 ++ [Value.string g,
 Value.int IntKind.i64 v, Value.bool rm, Value.bool md, Value.slice p n c,
 Value.string t]))
 2]
 w W →
 W.cell? (Addr.mk n_2 (0 + 53) none) = some (Value.string x_9)) ∧
 ∃ (p_1 : Option Addr),
 ∃ (n_3 : Nat),
 ∃ (c_1 : Nat),
 gimp
 (!(!r || !r_1 || !x.toList == x_1.toList || x_2 != x_3 || !x_4 == x_5 ||
 !x_6 == x_7 ||
 !x_8.toList == x_9.toList))
 (∀ (W : World),
 Loc w.heap.size
 [Blk.mk n_2 50
 (arrI IntKind.u8 id2 32 0 ++ (arrI IntKind.u8 au2 16 0 ++ [Value.string g2,
 Value.int IntKind.i64 v2, Value.bool rm2, Value.bool md2, Value.slice p2 n2 c2,
 Value.string t2]))
 2,
 Blk.mk n_1 50
 (arrI IntKind.u8 id 32 0 ++ (arrI IntKind.u8 au 16 0 ++ [Value.string g,
 Value.int IntKind.i64 v, Value.bool rm, Value.bool md, Value.slice p n c,
 Value.string t]))
 2]
 w W →
 W.cell? (Addr.mk n_1 (0 + 52) none) = some (Value.slice p_1 n_3 c_1)) ∧
 ∃ (p_2 : Option Addr),
 ∃ (n_4 : Nat),
 ∃ (c_2 : Nat),
 gimp
 (!(!r || !r_1 || !x.toList == x_1.toList || x_2 != x_3 || !x_4 == x_5 ||
 !x_6 == x_7 ||
 !x_8.toList == x_9.toList))
 (∀ (W : World),
 Loc w.heap.size
 [Blk.mk n_2 50
 (arrI IntKind.u8 id2 32 0 ++ (arrI IntKind.u8 au2 16 0 ++ [Value.string g2, Value.int IntKind.i64 v2, Value.bool rm2, Value.bool md2,
 Value.slice p2 n2 c2, Value.string t2]))
 2,
 Blk.mk n_1 50
 (arrI IntKind.u8 id 32 0 ++ (arrI IntKind.u8 au 16 0 ++ [Value.string g,
 Value.int IntKind.i64 v, Value.bool rm, Value.bool md, Value.slice p n c,
 Value.string t]))
 2]
 w W →
 W.cell? (Addr.mk n_2 (0 + 52) none) = some (Value.slice p_2 n_4 c_2)) ∧
 bsp
 (!r || !r_1 || !x.toList == x_1.toList || x_2 != x_3 || !x_4 == x_5 ||
 !x_6 == x_7 ||
 !x_8.toList == x_9.toList ||
 (↑n_3 : Int) != (↑n_4 : Int))
 (∀ (W : World),
 Loc w.heap.size
 [Blk.mk n_2 50
 (arrI IntKind.u8 id2 32 0 ++ (arrI IntKind.u8 au2 16 0 ++ [Value.string g2, Value.int IntKind.i64 v2, Value.bool rm2, Value.bool md2,
 Value.slice p2 n2 c2, Value.string t2]))
 2,
 Blk.mk n_1 50
 (arrI IntKind.u8 id 32 0 ++ (arrI IntKind.u8 au 16 0 ++ [Value.string g,
 Value.int IntKind.i64 v, Value.bool rm, Value.bool md, Value.slice p n c,
 Value.string t]))
 2]
 w W →
 R (Ending.returned (Value.bool false)) W)
 (∀ (W : World),
 Loc w.heap.size
 [Blk.mk n_2 50
 (arrI IntKind.u8 id2 32 0 ++ (arrI IntKind.u8 au2 16 0 ++ [Value.string g2, Value.int IntKind.i64 v2, Value.bool rm2, Value.bool md2,
 Value.slice p2 n2 c2, Value.string t2]))
 2,
 Blk.mk n_1 50
 (arrI IntKind.u8 id 32 0 ++ (arrI IntKind.u8 au 16 0 ++ [Value.string g,
 Value.int IntKind.i64 v, Value.bool rm, Value.bool md, Value.slice p n c,
 Value.string t]))
 2]
 w W →
 ∃ (I : List Value → World → Prop),
 ∃ (m : List Value → World → Nat),
 I [Value.int IntKind.i64 0] W ∧
 ∀ (x : Int) (w' : World),
 I [Value.int IntKind.i64 x] w' →
 Loc w.heap.size
 [Blk.mk n_2 50
 (arrI IntKind.u8 id2 32 0 ++ (arrI IntKind.u8 au2 16 0 ++ [Value.string g2, Value.int IntKind.i64 v2, Value.bool rm2,
 Value.bool md2, Value.slice p2 n2 c2, Value.string t2]))
 0,
 Blk.mk n_1 50
 (arrI IntKind.u8 id 32 0 ++ (arrI IntKind.u8 au 16 0 ++ [Value.string g, Value.int IntKind.i64 v, Value.bool rm, Value.bool md,
 Value.slice p n c, Value.string t]))
 0]
 w' w' →
 bsp (decide (x < (↑n : Int)))
 (nn true p fun (b o : Nat) =>
 (0 ≤ x ∧ x < (↑n : Int)) ∧
 ∃ (f : Nat → Int),
 (∀ (W : World),
 Loc w.heap.size
 [Blk.mk n_2 50
 (arrI IntKind.u8 id2 32 0 ++ (arrI IntKind.u8 au2 16 0 ++ [Value.string g2, Value.int IntKind.i64 v2, Value.bool rm2,
 Value.bool md2, Value.slice p2 n2 c2, Value.string t2]))
 0,
 Blk.mk n_1 50
 (arrI IntKind.u8 id 32 0 ++ (arrI IntKind.u8 au 16 0 ++ [Value.string g, Value.int IntKind.i64 v, Value.bool rm,
 Value.bool md, Value.slice p n c, Value.string t]))
 0]
 w' W →
 AtL W b (o + x.toNat * 16)
 (arrI IntKind.u8 f 16 0)) ∧
 nn true p2 fun (b o : Nat) =>
 (0 ≤ x ∧ x < (↑n2 : Int)) ∧
 ∃ (f_2 : Nat → Int),
 (∀ (W : World),
 Loc w.heap.size
 [Blk.mk n_2 50
 (arrI IntKind.u8 id2 32 0 ++ (arrI IntKind.u8 au2 16 0 ++ [Value.string g2,
 Value.int IntKind.i64 v2, Value.bool rm2, Value.bool md2,
 Value.slice p2 n2 c2, Value.string t2]))
 0,
 Blk.mk n_1 50
 (arrI IntKind.u8 id 32 0 ++ (arrI IntKind.u8 au 16 0 ++ [Value.string g, Value.int IntKind.i64 v, Value.bool rm,
 Value.bool md, Value.slice p n c, Value.string t]))
 0]
 w' W →
 AtL W b (o + x.toNat * 16)
 (arrI IntKind.u8 f_2 16 0)) ∧
 ∃ (r : Bool),
 EqP Tryz.prog 23
 (Value.agg
 (arrI IntKind.u8 f 16 0).toArray)
 (Value.agg
 (arrI IntKind.u8 f_2 16 0).toArray)
 r ∧
 bsp (!r)
 (∀ (W : World),
 Loc w.heap.size
 [Blk.mk n_2 50
 (arrI IntKind.u8 id2 32 0 ++ (arrI IntKind.u8 au2 16 0 ++ [Value.string g2,
 Value.int IntKind.i64 v2, Value.bool rm2,
 Value.bool md2, Value.slice p2 n2 c2, Value.string t2]))
 0,
 Blk.mk n_1 50
 (arrI IntKind.u8 id 32 0 ++ (arrI IntKind.u8 au 16 0 ++ [Value.string g,
 Value.int IntKind.i64 v, Value.bool rm, Value.bool md,
 Value.slice p n c, Value.string t]))
 0]
 w' W →
 R (Ending.returned (Value.bool false)) W)
 (∀ (W : World),
 Loc w.heap.size
 [Blk.mk n_2 50
 (arrI IntKind.u8 id2 32 0 ++ (arrI IntKind.u8 au2 16 0 ++ [Value.string g2,
 Value.int IntKind.i64 v2, Value.bool rm2,
 Value.bool md2, Value.slice p2 n2 c2, Value.string t2]))
 0,
 Blk.mk n_1 50
 (arrI IntKind.u8 id 32 0 ++ (arrI IntKind.u8 au 16 0 ++ [Value.string g,
 Value.int IntKind.i64 v, Value.bool rm, Value.bool md,
 Value.slice p n c, Value.string t]))
 0]
 w' W →
 I [Value.int IntKind.i64 (IntKind.i64.wrap (x + 1))] W ∧
 m [Value.int IntKind.i64 (IntKind.i64.wrap (x + 1))] W <
 m [Value.int IntKind.i64 x] w'))
 (R (Ending.returned (Value.bool true)) w'))
theorem vc_xsame (id : Nat → Int) (au : Nat → Int) (g : ByteArray) (v : Int) (rm : Bool) (md : Bool) (p : Option Addr) (n : Nat) (c : Nat) (t : ByteArray) (id2 : Nat → Int) (au2 : Nat → Int) (g2 : ByteArray) (v2 : Int) (rm2 : Bool) (md2 : Bool) (p2 : Option Addr) (n2 : Nat) (c2 : Nat) (t2 : ByteArray) (w : World) (R : Ending → World → Prop) (h : VC_xsame id au g v rm md p n c t id2 au2 g2 v2 rm2 md2 p2 n2 c2 t2 w R) : Calls Tryz.prog 28 ([Value.agg
    (arrI IntKind.u8 id 32 0 ++
        (arrI IntKind.u8 au 16 0 ++
          [Value.string g, Value.int IntKind.i64 v, Value.bool rm, Value.bool md, Value.slice p n c,
            Value.string t])).toArray,
  Value.agg
    (arrI IntKind.u8 id2 32 0 ++
        (arrI IntKind.u8 au2 16 0 ++
          [Value.string g2, Value.int IntKind.i64 v2, Value.bool rm2, Value.bool md2, Value.slice p2 n2 c2,
            Value.string t2])).toArray] : List Value).toArray w R := by
  have e : execR2 { P := Tryz.prog, loops := [(4, [(5, Ck.int IntKind.i64)])], pur := pur1, tails := [], joins := [], boxes := [] } Tryz.f28.results.toList R (Tryz.f28.body.getD .skip) (initF [Value.agg
    (arrI IntKind.u8 id 32 0 ++
        (arrI IntKind.u8 au 16 0 ++
          [Value.string g, Value.int IntKind.i64 v, Value.bool rm, Value.bool md, Value.slice p n c,
            Value.string t])).toArray,
  Value.agg
    (arrI IntKind.u8 id2 32 0 ++
        (arrI IntKind.u8 au2 16 0 ++
          [Value.string g2, Value.int IntKind.i64 v2, Value.bool rm2, Value.bool md2, Value.slice p2 n2 c2,
            Value.string
              t2])).toArray] (Tryz.f28.ntmps - ([Value.agg
    (arrI IntKind.u8 id 32 0 ++
        (arrI IntKind.u8 au 16 0 ++
          [Value.string g, Value.int IntKind.i64 v, Value.bool rm, Value.bool md, Value.slice p n c,
            Value.string t])).toArray,
  Value.agg
    (arrI IntKind.u8 id2 32 0 ++
        (arrI IntKind.u8 au2 16 0 ++
          [Value.string g2, Value.int IntKind.i64 v2, Value.bool rm2, Value.bool md2, Value.slice p2 n2 c2,
            Value.string
              t2])).toArray] : List Value).length)) w = VC_xsame id au g v rm md p n c t id2 au2 g2 v2 rm2 md2 p2 n2 c2 t2 w R := by kernel_rfl
  have hb : Tryz.f28.body = some (Tryz.f28.body.getD .skip) := by kernel_rfl
  exact calls_of_exec2' (P := Tryz.prog) (fn := Tryz.f28) (c := Tryz.f28.body.getD .skip) (args := [Value.agg
    (arrI IntKind.u8 id 32 0 ++
        (arrI IntKind.u8 au 16 0 ++
          [Value.string g, Value.int IntKind.i64 v, Value.bool rm, Value.bool md, Value.slice p n c,
            Value.string t])).toArray,
  Value.agg
    (arrI IntKind.u8 id2 32 0 ++
        (arrI IntKind.u8 au2 16 0 ++
          [Value.string g2, Value.int IntKind.i64 v2, Value.bool rm2, Value.bool md2, Value.slice p2 n2 c2,
            Value.string t2])).toArray]) (w := w) (R := R) pur1_ok Tryz.func28 hb e h

def VC_xnew (p : Option Addr) (n : Nat) (c : Nat) (w : World) (R : Ending → World → Prop) : Prop :=
 ∀ (n_1 : Nat),
 bsp (decide ((↑n : Int) > 64))
 (∀ (W : World),
 Loc w.heap.size [Blk.mk n_1 33 [Value.slice none 0 0, Value.slice none 0 0] (wrM 2)] w W →
 R
 (Ending.returned
 (Value.tuple
 #[Value.agg #[Value.slice none 0 0, Value.slice none 0 0], Value.int IntKind.i64 64, Value.int IntKind.i64 9]))
 W)
 (∀ (W : World),
 Loc w.heap.size [Blk.mk n_1 33 [Value.slice none 0 0, Value.slice none 0 0] 2] w W →
 ∃ (I : List Value → World → Prop),
 ∃ (m : List Value → World → Nat),
 I [Value.int IntKind.i64 0] W ∧
 ∀ (x : Int) (w' : World),
 I [Value.int IntKind.i64 x] w' →
 bsp (decide (x < (↑n : Int)))
 (nn true p fun (b o : Nat) =>
 (0 ≤ x ∧ x < (↑n : Int)) ∧
 ∃ (x_1 : ByteArray),
 w'.cell? (Addr.mk b (o + x.toNat * 17) none) = some (Value.string x_1) ∧
 CallsS Tryz.prog 45 #[Value.string x_1] w' fun (e : Ending) (w'_1 : World) =>
 ∃ (p : Option Addr),
 ∃ (n : Nat),
 ∃ (c : Nat),
 ∃ (x_2 : Int),
 ∃ (x_3 : Int),
 e =
 Ending.returned
 (Value.tuple #[Value.slice p n c, Value.int IntKind.i64 x_2, Value.int IntKind.i64 x_3]) ∧
 KeptL [] w' w'_1 ∧
 bsp (x_3 != 0)
 (WrL w'_1 n_1 0 2 ∧
 ∀ (w1 : World),
 PutB w'_1 n_1 0 [Value.slice none 0 0, Value.slice none 0 0] w1 →
 KeptL [] w'_1 w1 ∧
 ∃ (p : Option Addr),
 ∃ (n : Nat),
 ∃ (c : Nat),
 ∃ (p_1 : Option Addr),
 ∃ (n_2 : Nat),
 ∃ (c_1 : Nat),
 AtL w1 n_1 0 [Value.slice p n c, Value.slice p_1 n_2 c_1] ∧
 R
 (Ending.returned
 (Value.tuple
 #[Value.agg #[Value.slice p n c, Value.slice p_1 n_2 c_1], Value.int IntKind.i64 x,
 Value.int IntKind.i64 x_3]))
 w1)
 (I [Value.int IntKind.i64 (IntKind.i64.wrap (x + 1))] w'_1 ∧
 m [Value.int IntKind.i64 (IntKind.i64.wrap (x + 1))] w'_1 < m [Value.int IntKind.i64 x] w'))
 (∀ (n_2 : Nat) (W : World),
 Loc w.heap.size [Blk.mk n_2 92 [] 2] w' W →
 ∃ (base : Nat),
 ∃ (xs : List Value),
 ∃ (news : List Value),
 W.ownsRow base 92 17 (Value.slice (some (Addr.mk n_2 0 none)) 0 0) 0 xs ∧
 news.length = n * 17 ∧
 SrcP W p news ∧
 0 + n ≤ 9223372036854775807 ∧
 (0 + n) * 32 ≤ 140737488355328 ∧
 base ≤ W.heap.size ∧
 ∀ (p' : Option Addr) (c' : Nat) (w' : World),
 w'.ownsRow base 92 17 (Value.slice p' (0 + n) c') (0 + n) (xs ++ news) →
 W.grownBy w' (Value.slice (some (Addr.mk n_2 0 none)) 0 0).ownBlock →
 (0 + n ≤ 0 → p' = some (Addr.mk n_2 0 none) ∧ c' = 0) →
 KeptL [] W w' ∧
 WrL w' n_1 0 2 ∧
 ∀ (w1 : World),
 PutB w' n_1 0 [Value.slice p' (0 + n) c', Value.slice none 0 0] w1 →
 KeptL [] w' w1 ∧
 ∃ (p : Option Addr),
 ∃ (n : Nat),
 ∃ (c : Nat),
 ∃ (p_1 : Option Addr),
 ∃ (n_3 : Nat),
 ∃ (c_1 : Nat),
 AtL w1 n_1 0 [Value.slice p n c, Value.slice p_1 n_3 c_1] ∧
 R
 (Ending.returned
 (Value.tuple
 #[Value.agg #[Value.slice p n c, Value.slice p_1 n_3 c_1],
 Value.int IntKind.i64 0, Value.int IntKind.i64 0]))
 w1))
theorem vc_xnew (p : Option Addr) (n : Nat) (c : Nat) (w : World) (R : Ending → World → Prop) (h : VC_xnew p n c w R) : Calls Tryz.prog 14 ([Value.slice
    p n c] : List Value).toArray w R := by
  have e : execR2 { P := Tryz.prog, loops := [(4, [(5, Ck.int IntKind.i64)])], pur := pur1, tails := [], joins := [], boxes := [] } Tryz.f14.results.toList R (Tryz.f14.body.getD .skip) (initF [Value.slice
    p n c] (Tryz.f14.ntmps - ([Value.slice p n c] : List Value).length)) w = VC_xnew p n c w R := by kernel_rfl
  have hb : Tryz.f14.body = some (Tryz.f14.body.getD .skip) := by kernel_rfl
  exact calls_of_exec2' (P := Tryz.prog) (fn := Tryz.f14) (c := Tryz.f14.body.getD .skip) (args := [Value.slice p n
    c]) (w := w) (R := R) pur1_ok Tryz.func14 hb e h

def VC_xauth (p : Option Addr) (n : Nat) (c : Nat) (q : Option Addr) (k : Nat) (d : Nat) (s : ByteArray) (a : Nat → Int) (w : World) (R : Ending → World → Prop) : Prop :=
 ∀ (n_1 n_2 : Nat) (W : World),
 Loc w.heap.size
 [Blk.mk n_2 23
 (arrI IntKind.u8 a 16 0)
 2,
 Blk.mk n_1 33 [Value.slice p n c, Value.slice q k d] 2]
 w W →
 ∃ (I : List Value → World → Prop),
 ∃ (m : List Value → World → Nat),
 I [Value.int IntKind.i64 0] W ∧
 ∀ (x : Int) (w' : World),
 I [Value.int IntKind.i64 x] w' →
 Loc w.heap.size
 [Blk.mk n_2 23
 (arrI IntKind.u8 a 16 0)
 0,
 Blk.mk n_1 33 [Value.slice p n c, Value.slice q k d] 0]
 w' w' →
 bsp (decide (x < (↑n : Int)))
 (nn true p fun (b o : Nat) =>
 (0 ≤ x ∧ x < (↑n : Int)) ∧
 ∃ (x_1 : ByteArray),
 w'.cell? (Addr.mk b (o + x.toNat * 17) none) = some (Value.string x_1) ∧
 CallsS Tryz.prog 45 #[Value.string x_1] w' fun (e : Ending) (w'_1 : World) =>
 ∃ (p_1 : Option Addr),
 ∃ (n_3 : Nat),
 ∃ (c_1 : Nat),
 ∃ (x_2 : Int),
 ∃ (x_3 : Int),
 e =
 Ending.returned
 (Value.tuple #[Value.slice p_1 n_3 c_1, Value.int IntKind.i64 x_2, Value.int IntKind.i64 x_3]) ∧
 KeptL [n_2, n_1] w' w'_1 ∧
 nn true p fun (b o : Nat) =>
 (0 ≤ x ∧ x < (↑n : Int)) ∧
 ∃ (f : Nat → Int),
 (∀ (W : World),
 Loc w.heap.size
 [Blk.mk n_2 23
 (arrI IntKind.u8 a 16 0)
 0,
 Blk.mk n_1 33 [Value.slice p n c, Value.slice q k d] 0]
 w'_1 W →
 AtL W b (o + x.toNat * 17 + 1)
 (arrI IntKind.u8 f 16 0)) ∧
 ∃ (r : Bool),
 EqP Tryz.prog 23
 (Value.agg
 (arrI IntKind.u8 f 16 0).toArray)
 (Value.agg
 (arrI IntKind.u8 a 16 0).toArray)
 r ∧
 ∀ (W : World),
 Loc w.heap.size
 [Blk.mk n_2 23
 (arrI IntKind.u8 a 16 0)
 0,
 Blk.mk n_1 33 [Value.slice p n c, Value.slice q k d] 0]
 w'_1 W →
 bsp r
 (CallsS Tryz.prog 47 #[Value.slice p_1 n_3 c_1, Value.string s] W
 fun (e : Ending) (w'_2 : World) =>
 ∃ (x_4 : Int),
 e = Ending.returned (Value.int IntKind.i64 x_4) ∧
 KeptL [n_2, n_1] W w'_2 ∧
 bsp (true && x_4 == 1) (R (Ending.returned (Value.bool true)) w'_2)
 (I [Value.int IntKind.i64 (IntKind.i64.wrap (x + 1))] w'_2 ∧
 m [Value.int IntKind.i64 (IntKind.i64.wrap (x + 1))] w'_2 <
 m [Value.int IntKind.i64 x] w'))
 (KeptL [n_2, n_1] W W ∧
 I [Value.int IntKind.i64 (IntKind.i64.wrap (x + 1))] W ∧
 m [Value.int IntKind.i64 (IntKind.i64.wrap (x + 1))] W <
 m [Value.int IntKind.i64 x] w'))
 (R (Ending.returned (Value.bool false)) w')
theorem vc_xauth (p : Option Addr) (n : Nat) (c : Nat) (q : Option Addr) (k : Nat) (d : Nat) (s : ByteArray) (a : Nat → Int) (w : World) (R : Ending → World → Prop) (h : VC_xauth p n c q k d s a w R) : Calls Tryz.prog 17 ([Value.agg
    #[Value.slice p n c, Value.slice q k d],
  Value.string s, Value.agg (arrI IntKind.u8 a 16 0).toArray] : List Value).toArray w R := by
  have e : execR2 { P := Tryz.prog, loops := [(2, [(7, Ck.int IntKind.i64)])], pur := pur1, tails := [(5, 11)], joins := [], boxes := [] } Tryz.f17.results.toList R (Tryz.f17.body.getD .skip) (initF [Value.agg
    #[Value.slice p n c, Value.slice q k d],
  Value.string s,
  Value.agg
    (arrI IntKind.u8 a 16
        0).toArray] (Tryz.f17.ntmps - ([Value.agg #[Value.slice p n c, Value.slice q k d], Value.string s,
  Value.agg (arrI IntKind.u8 a 16 0).toArray] : List Value).length)) w = VC_xauth p n c q k d s a w R := by kernel_rfl
  have hb : Tryz.f17.body = some (Tryz.f17.body.getD .skip) := by kernel_rfl
  exact calls_of_exec2' (P := Tryz.prog) (fn := Tryz.f17) (c := Tryz.f17.body.getD .skip) (args := [Value.agg
    #[Value.slice p n c, Value.slice q k d],
  Value.string s, Value.agg (arrI IntKind.u8 a 16 0).toArray]) (w := w) (R := R) pur1_ok Tryz.func17 hb e h

def VC_xfind (p : Option Addr) (n : Nat) (c : Nat) (q : Option Addr) (k : Nat) (d : Nat) (i : Nat → Int) (w : World) (R : Ending → World → Prop) : Prop :=
 ∀ (n_1 n_2 : Nat) (W : World),
 Loc w.heap.size
 [Blk.mk n_2 47
 (arrI IntKind.u8 i 32 0)
 2,
 Blk.mk n_1 33 [Value.slice p n c, Value.slice q k d] 2]
 w W →
 ∃ (I : List Value → World → Prop),
 ∃ (m : List Value → World → Nat),
 I [Value.int IntKind.i64 0] W ∧
 ∀ (x : Int) (w' : World),
 I [Value.int IntKind.i64 x] w' →
 Loc w.heap.size
 [Blk.mk n_2 47
 (arrI IntKind.u8 i 32 0)
 0,
 Blk.mk n_1 33 [Value.slice p n c, Value.slice q k d] 0]
 w' w' →
 bsp (decide (x < (↑k : Int)))
 (nn true q fun (b o : Nat) =>
 (0 ≤ x ∧ x < (↑k : Int)) ∧
 ∃ (f : Nat → Int),
 (∀ (W : World),
 Loc w.heap.size
 [Blk.mk n_2 47
 (arrI IntKind.u8 i 32 0)
 0,
 Blk.mk n_1 33 [Value.slice p n c, Value.slice q k d] 0]
 w' W →
 AtL W b (o + x.toNat * 54)
 (arrI IntKind.u8 f 32 0)) ∧
 ∃ (r : Bool),
 EqP Tryz.prog 47
 (Value.agg
 (arrI IntKind.u8 f 32 0).toArray)
 (Value.agg
 (arrI IntKind.u8 i 32 0).toArray)
 r ∧
 bsp r
 (∀ (W : World),
 Loc w.heap.size
 [Blk.mk n_2 47
 (arrI IntKind.u8 i 32 0)
 0,
 Blk.mk n_1 33 [Value.slice p n c, Value.slice q k d] 0]
 w' W →
 R (Ending.returned (Value.int IntKind.i64 x)) W)
 (∀ (W : World),
 Loc w.heap.size
 [Blk.mk n_2 47
 (arrI IntKind.u8 i 32 0)
 0,
 Blk.mk n_1 33 [Value.slice p n c, Value.slice q k d] 0]
 w' W →
 I [Value.int IntKind.i64 (IntKind.i64.wrap (x + 1))] W ∧
 m [Value.int IntKind.i64 (IntKind.i64.wrap (x + 1))] W < m [Value.int IntKind.i64 x] w'))
 (R (Ending.returned (Value.int IntKind.i64 (-1))) w')
theorem vc_xfind (p : Option Addr) (n : Nat) (c : Nat) (q : Option Addr) (k : Nat) (d : Nat) (i : Nat → Int) (w : World) (R : Ending → World → Prop) (h : VC_xfind p n c q k d i w R) : Calls Tryz.prog 70 ([Value.agg
    #[Value.slice p n c, Value.slice q k d],
  Value.agg (arrI IntKind.u8 i 32 0).toArray] : List Value).toArray w R := by
  have e : execR2 { P := Tryz.prog, loops := [(2, [(5, Ck.int IntKind.i64)])], pur := pur1, tails := [], joins := [], boxes := [] } Tryz.f70.results.toList R (Tryz.f70.body.getD .skip) (initF [Value.agg
    #[Value.slice p n c, Value.slice q k d],
  Value.agg
    (arrI IntKind.u8 i 32
        0).toArray] (Tryz.f70.ntmps - ([Value.agg #[Value.slice p n c, Value.slice q k d],
  Value.agg (arrI IntKind.u8 i 32 0).toArray] : List Value).length)) w = VC_xfind p n c q k d i w R := by kernel_rfl
  have hb : Tryz.f70.body = some (Tryz.f70.body.getD .skip) := by kernel_rfl
  exact calls_of_exec2' (P := Tryz.prog) (fn := Tryz.f70) (c := Tryz.f70.body.getD .skip) (args := [Value.agg
    #[Value.slice p n c, Value.slice q k d],
  Value.agg (arrI IntKind.u8 i 32 0).toArray]) (w := w) (R := R) pur1_ok Tryz.func70 hb e h

end Go.Proofs.YtkkfnlehlkiejaaGreatDoor

/- Chapter 21: the contracts of the reference: Check, Same, New, Authority, find. Lists of at most 2^30 bytes. -/
namespace Go.Proofs.YtkkfnlehlkiejaaGreatDoor
open Go.RowKit Go.Maps

theorem relEs_len {es : List Ent} {L : List RItA} (h : RelEnts es (L.map (·.1))) (h64 : es.length ≤ 64) (h80 : ∀ e ∈ es, e.els.length ≤ 80) : L.length ≤ 64 ∧ ∀ x ∈ L, x.1.rs.length ≤ 80 := by
  have hl := h.len
  rw [List.length_map] at hl
  refine ⟨by omega, fun x hx => ?_⟩
  obtain ⟨j, hj, rfl⟩ := List.getElem_of_mem hx
  have hj' : j < es.length := by omega
  have := (h.at_ j es[j] L[j].1 (List.getElem?_eq_getElem hj') (by simp [hj])).els.len
  rw [← this]
  exact h80 _ (List.getElem_mem hj')
theorem auEqR {f g : Nat → Int} (hf : BY f) (hg : BY g) : EqP Tryz.prog 23 (.agg (arrI .u8 f 16 0).toArray) (.agg (arrI .u8 g 16 0).toArray) (decide (auI f = auI g)) :=
  eq_bytes Tryz.underlying23 Tryz.underlying5 (by kernel_rfl) (by kernel_rfl) (by kernel_rfl) (by decide +kernel) (by kernel_rfl) (by kernel_rfl) (auI_len f) (auI_bd hf) (auI_len g) (auI_bd hg)
theorem idEqR {f g : Nat → Int} (hf : BY f) (hg : BY g) : EqP Tryz.prog 47 (.agg (arrI .u8 f 32 0).toArray) (.agg (arrI .u8 g 32 0).toArray) (decide (idI f = idI g)) :=
  eq_bytes Tryz.underlying47 Tryz.underlying5 (by kernel_rfl) (by kernel_rfl) (by kernel_rfl) (by decide +kernel) (by kernel_rfl) (by kernel_rfl) (idI_len f) (idI_bd hf) (idI_len g) (idI_bd hg)
set_option maxHeartbeats 1000000 in
theorem xcheck_any (x : DX) (w : World) (hR : RowA auC 16 w x.p x.d.ms) (ho : x.d.OK) :
    Calls Tryz.prog 25 #[.agg (dfC x).toArray] w fun e w' => e = .returned (.int .i64 (dchk x.d)) ∧ K0 w w' := by
  obtain ⟨d, p, c⟩ := x
  obtain ⟨id, au, g, v, rm, md, ms, tx⟩ := d
  refine vc_xcheck id au g v rm md p ms.length c tx w _ (fun n1 W hW => ?_)
  have kW : K0 w W := hW.kk rfl
  have hb0 := hW.cells 0 rfl
  simp only at hR
  unfold dchk
  simp only
  refine ⟨(xgcheck_any g W).mono fun e w1 ⟨he, k1⟩ => ⟨_, he, .of_k0 k1, bsp_intro (fun h => ?_) (fun h => ?_)⟩⟩
  · rw [if_pos (by simpa using h)]; exact ⟨rfl, kW.trans k1⟩
  rw [if_neg (by simpa using h)]
  have k01 := kW.trans k1
  have hb1 := k1.blk hb0 (fun h => h)
  refine ⟨v, gimp_intro fun _ => cell_at hb1 rfl, bsp_intro (fun h => ?_) (fun h => ?_)⟩
  · rw [if_pos (by simp only [Bool.or_eq_true, decide_eq_true_eq] at h; omega)]; exact ⟨rfl, k01⟩
  rw [if_neg (by simp only [Bool.or_eq_false_iff, decide_eq_false_iff_not] at h; omega)]
  refine ⟨md, gimp_intro fun _ => cell_at hb1 rfl, p, ms.length, c, gimp_intro fun _ => cell_at hb1 rfl, tx, gimp_intro fun _ => cell_at hb1 rfl, bsp_intro (fun h => ?_) (fun h => ?_)⟩
  · have h : rm = true ∧ (md = true ∨ 0 < ms.length ∨ tx.size ≠ 0) := by
      rw [toList_nil] at h
      simp only [Bool.and_eq_true, Bool.or_eq_true, decide_eq_true_eq, Bool.not_eq_true', decide_eq_false_iff_not] at h
      obtain ⟨h1, (h2 | h2) | h2⟩ := h
      · exact ⟨h1, .inl h2⟩
      · exact ⟨h1, .inr (.inl (by omega))⟩
      · exact ⟨h1, .inr (.inr h2)⟩
    rw [if_pos h]; exact ⟨rfl, k01⟩
  have h3 : ¬ (rm = true ∧ (md = true ∨ 0 < ms.length ∨ tx.size ≠ 0)) := by
    rw [toList_nil] at h
    rintro ⟨h1, h2⟩
    rw [h1] at h
    simp only [Bool.true_and, Bool.or_eq_false_iff, decide_eq_false_iff_not, Bool.not_eq_false', decide_eq_true_eq] at h
    rcases h2 with h2 | h2 | h2
    · rw [h2] at h; cases h.1.1
    · have := h.1.2; omega
    · exact h2 h.2
  rw [if_neg h3]
  refine bsp_intro (fun h => ?_) (fun h => ?_)
  · rw [if_pos (by simp at h; omega)]; exact ⟨rfl, k01⟩
  have h8 : ¬ 8 < ms.length := by simp at h; omega
  rw [if_neg h8]
  refine ⟨fun vs w' => ∃ i : Nat, vs = [.int .i64 (i : Int)] ∧ i ≤ ms.length ∧ dupE ((ms.map auI).take i) ((ms.map auI).drop i) = dupE [] (ms.map auI) ∧ K0 w w',
    fun vs _ => (match vs with | .int _ x :: _ => ms.length - x.toNat | _ => 0), ⟨0, rfl, by omega, rfl, k01⟩, ?_⟩
  rintro x w2 ⟨i, hv, hi, hD, k2⟩ _
  simp only [List.cons.injEq, Value.int.injEq, true_and, and_true] at hv
  subst hv
  refine bsp_intro (fun hlt => ?_) (fun hge => ?_)
  · have hlt : i < ms.length := by simp at hlt; omega
    obtain ⟨z, b, o, hz, hp, hat⟩ := (hR.k0 k2).get hlt
    have hmz : (ms.map auI)[i]? = some (auI z) := by rw [List.getElem?_map, hz]; rfl
    rw [dupE_step hmz] at hD
    refine ⟨fun vs w' => ∃ j : Nat, vs = [.int .i64 (j : Int)] ∧ j ≤ i ∧ (∀ (q : Nat) (y : Nat → Int), q < j → ms[q]? = some y → auI y ≠ auI z) ∧ K0 w w',
      fun vs _ => (match vs with | .int _ x :: _ => i - x.toNat | _ => 0), ⟨0, rfl, by omega, (fun q y h => by omega), k2⟩, ?_⟩
    rintro x w3 ⟨j, hv, hj, hall, k3⟩ _
    simp only [List.cons.injEq, Value.int.injEq, true_and, and_true] at hv
    subst hv
    refine bsp_intro (fun hlj => ?_) (fun hgj => ?_)
    · have hlj : j < i := by simp at hlj; omega
      obtain ⟨y, b2, o2, hy, hp2, hat2⟩ := (hR.k0 k3).get (k := j) (by omega)
      obtain ⟨z', b3, o3, hz', hp3, hat3⟩ := (hR.k0 k3).get hlt
      rw [hz] at hz'
      cases hz'
      rw [Int.toNat_natCast, Int.toNat_natCast]
      refine nn_is hp2 ⟨⟨by omega, by omega⟩, y, fun W hW => hat2.k0 (hW.kk rfl), nn_is hp3 ⟨⟨by omega, by omega⟩, z, fun W hW => hat3.k0 (hW.kk rfl), _, auEqR (ho.ms y (List.mem_of_getElem? hy)) (ho.ms z (List.mem_of_getElem? hz)), bsp_intro (fun h => fun W hW => ?_) (fun h => fun W hW => ?_)⟩⟩
      · have h : auI y = auI z := of_decide_eq_true h
        have hm : auI z ∈ (ms.map auI).take i := by
          rw [← h]
          refine List.mem_iff_getElem?.2 ⟨j, ?_⟩
          rw [List.getElem?_take, if_pos hlj, List.getElem?_map, hy]; rfl
        rw [if_pos hm] at hD
        rw [if_pos (by rw [← hD]; decide)]
        exact ⟨rfl, hW.k0 k3⟩
      · have h : ¬ auI y = auI z := of_decide_eq_false h
        refine ⟨⟨j + 1, by rw [inc64 (by omega)], hlj, fun q u hq hu => ?_, hW.k0 k3⟩, by rw [inc64 (by omega)]; simp only [Int.toNat_natCast]; omega⟩
        by_cases e : q = j
        · rw [e, hy] at hu; cases hu; exact h
        · exact hall q u (by omega) hu
    · have hji : j = i := by simp at hgj; omega
      subst hji
      have hm : ¬ auI z ∈ (ms.map auI).take j := fun hm => by
        obtain ⟨q, hq⟩ := List.mem_iff_getElem?.1 hm
        rw [List.getElem?_take] at hq
        split at hq
        · rename_i hqj
          rw [List.getElem?_map, Option.map_eq_some_iff] at hq
          obtain ⟨u, hu, e⟩ := hq
          exact hall q u hqj hu e
        · cases hq
      rw [if_neg hm] at hD
      exact ⟨⟨j + 1, by rw [inc64 (by omega)], hlt, hD, k3⟩, by rw [inc64 (by omega)]; simp only [Int.toNat_natCast]; omega⟩
  · have hi : i = ms.length := by simp at hge; omega
    subst hi
    have hz : dupE [] (ms.map auI) = 0 := by
      rw [← hD]
      have : (ms.map auI).drop ms.length = [] := List.drop_of_length_le (by simp)
      rw [this]; rfl
    rw [if_neg (by rw [hz]; decide)]
    refine bsp_intro (fun h => ?_) (fun h => ?_)
    · rw [if_pos (by simp at h; omega)]; exact ⟨rfl, k2⟩
    · rw [if_neg (by simp at h; omega)]; exact ⟨rfl, k2⟩
set_option maxHeartbeats 2000000 in
theorem xsame_any (x y : DX) (w : World) (hx : RowA auC 16 w x.p x.d.ms) (hy : RowA auC 16 w y.p y.d.ms) (ox : x.d.OK) (oy : y.d.OK) (hl : x.d.ms.length ≤ 1099511627776) :
    Calls Tryz.prog 28 #[.agg (dfC x).toArray, .agg (dfC y).toArray] w fun e w' => e = .returned (.bool (dEq x.d y.d)) ∧ K0 w w' := by
  obtain ⟨⟨id, au, g, v, rm, md, ms, tx⟩, p, c⟩ := x
  obtain ⟨⟨id2, au2, g2, v2, rm2, md2, ms2, tx2⟩, p2, c2⟩ := y
  simp only at hx hy hl
  refine vc_xsame id au g v rm md p ms.length c tx id2 au2 g2 v2 rm2 md2 p2 ms2.length c2 tx2 w _ (fun n1 n2 => ?_)
  refine ⟨_, idEqR ox.id oy.id, au, gimp_intro fun _ W hW => AtL_block (hW.cells 1 rfl) rfl, au2, gimp_intro fun _ W hW => AtL_block (hW.cells 0 rfl) rfl, _, gimp_intro fun _ => auEqR ox.au oy.au, ?_⟩
  refine ⟨g, gimp_intro fun _ W hW => cell_at (hW.cells 1 rfl) rfl, g2, gimp_intro fun _ W hW => cell_at (hW.cells 0 rfl) rfl, v, gimp_intro fun _ W hW => cell_at (hW.cells 1 rfl) rfl, v2, gimp_intro fun _ W hW => cell_at (hW.cells 0 rfl) rfl, ?_⟩
  refine ⟨rm, gimp_intro fun _ W hW => cell_at (hW.cells 1 rfl) rfl, rm2, gimp_intro fun _ W hW => cell_at (hW.cells 0 rfl) rfl, md, gimp_intro fun _ W hW => cell_at (hW.cells 1 rfl) rfl, md2, gimp_intro fun _ W hW => cell_at (hW.cells 0 rfl) rfl, ?_⟩
  refine ⟨tx, gimp_intro fun _ W hW => cell_at (hW.cells 1 rfl) rfl, tx2, gimp_intro fun _ W hW => cell_at (hW.cells 0 rfl) rfl, p, ms.length, c, gimp_intro fun _ W hW => cell_at (hW.cells 1 rfl) rfl, p2, ms2.length, c2, gimp_intro fun _ W hW => cell_at (hW.cells 0 rfl) rfl, ?_⟩
  rw [str_beq, str_beq]
  refine bsp_intro (fun h => fun W hW => ⟨?_, hW.kk rfl⟩) (fun h => fun W hW => ?_)
  · congr 2
    unfold dEq
    simp only
    symm
    rw [Bool.eq_false_iff]
    intro hc
    simp only [Bool.and_eq_true] at hc
    obtain ⟨h1, h2, h3, h4, h5, h6, h7, h8⟩ := hc
    have hle : ms.length = ms2.length := by
      have := congrArg List.length (of_decide_eq_true h7)
      simpa using this
    rw [h1, h2, h3, h8, hle] at h
    simp only [beq_iff_eq] at h4 h5 h6
    rw [h4, h5, h6] at h
    simp at h
  · have kW : K0 w W := hW.kk rfl
    simp only [Bool.or_eq_false_iff, Bool.not_eq_false', decide_eq_true_eq, bne_eq_false_iff_eq, beq_iff_eq] at h
    obtain ⟨⟨⟨⟨⟨⟨⟨h1, h2⟩, h3⟩, h4⟩, h5⟩, h6⟩, h7⟩, h8⟩ := h
    have hn : ms.length = ms2.length := by omega
    have hE : dEq ⟨id, au, g, v, rm, md, ms, tx⟩ ⟨id2, au2, g2, v2, rm2, md2, ms2, tx2⟩ = decide (ms.map auI = ms2.map auI) := by
      unfold dEq
      simp only
      rw [decide_eq_true h1, decide_eq_true h2, decide_eq_true h3, decide_eq_true h7, h4, h5, h6]
      simp
    rw [hE]
    refine ⟨fun vs w' => ∃ i : Nat, vs = [.int .i64 (i : Int)] ∧ i ≤ ms.length ∧ (ms.take i).map auI = (ms2.take i).map auI ∧ K0 w w',
      fun vs _ => (match vs with | .int _ x :: _ => ms.length - x.toNat | _ => 0), ⟨0, rfl, by omega, by simp, kW⟩, ?_⟩
    rintro x w1 ⟨i, hv, hi, ht, k1⟩ _
    simp only [List.cons.injEq, Value.int.injEq, true_and, and_true] at hv
    subst hv
    refine bsp_intro (fun hlt => ?_) (fun hge => ?_)
    · have hlt : i < ms.length := by simp at hlt; omega
      obtain ⟨z, b1, o1, hz, hp1, hc1⟩ := (hx.k0 k1).get hlt
      obtain ⟨y, b2, o2, hyy, hp2, hc2⟩ := (hy.k0 k1).get (k := i) (by omega)
      rw [Int.toNat_natCast]
      refine nn_is hp1 ⟨⟨by omega, by omega⟩, z, fun W hW => hc1.k0 (hW.kk rfl), nn_is hp2 ⟨⟨by omega, by omega⟩, y, fun W hW => hc2.k0 (hW.kk rfl), _, auEqR (ox.ms z (List.mem_of_getElem? hz)) (oy.ms y (List.mem_of_getElem? hyy)), bsp_intro (fun hne => fun W hW => ?_) (fun heq => fun W hW => ?_)⟩⟩
      · have hne : ¬ auI z = auI y := by simpa using hne
        have : ¬ ms.map auI = ms2.map auI := fun e => by
          have := congrArg (·[i]?) e
          simp only [List.getElem?_map, hz, hyy, Option.map_some, Option.some.injEq] at this
          exact hne this
        rw [decide_eq_false this]; exact ⟨rfl, k1.trans (hW.kk rfl)⟩
      · have e : auI z = auI y := by simpa using heq
        refine ⟨⟨i + 1, by rw [inc64 (by omega)], hlt, ?_, k1.trans (hW.kk rfl)⟩, by rw [inc64 (by omega)]; simp only [Int.toNat_natCast]; omega⟩
        rw [take_snoc hz, take_snoc hyy, List.map_append, List.map_append, ht]
        simp [e]
    · have hi : i = ms.length := by simp at hge; omega
      subst hi
      rw [List.take_length, List.take_of_length_le (by omega)] at ht
      rw [decide_eq_true ht]; exact ⟨rfl, k1⟩

/-! ### Authorities -/
theorem newE_all : ∀ (l : List Au) (i : Nat), (newE l i).2 = 0 → ∀ x ∈ l, ∃ es, listR x.pt = .inl es
  | [], _, _ => fun x hx => by cases hx
  | y :: r, i, h => by
    unfold newE at h
    intro x hx
    cases hl : listR y.pt with
    | inl es =>
      rw [hl] at h
      rcases List.mem_cons.1 hx with rfl | hx
      · exact ⟨es, hl⟩
      · exact newE_all r (i + 1) h x hx
    | inr oe =>
      obtain ⟨o, e⟩ := oe
      rw [hl] at h
      exact absurd h (listR_err hl)
set_option maxHeartbeats 1000000 in
theorem xnew_any (l : List Au) (p : Option Addr) (c : Nat) (w : World) (hR : RowA atC 17 w p l) (hsz : ∀ x ∈ l, x.pt.size ≤ 1073741824) :
    Calls Tryz.prog 14 #[.slice p l.length c] w fun e w' => ((64 < l.length ∧ e = .returned (.tuple #[.agg #[.slice none 0 0, .slice none 0 0], .int .i64 64, .int .i64 9])) ∨
      (l.length ≤ 64 ∧ (newE l 0).2 ≠ 0 ∧ e = .returned (.tuple #[.agg #[.slice none 0 0, .slice none 0 0], .int .i64 ((newE l 0).1 : Nat), .int .i64 (newE l 0).2])) ∨
      (l.length ≤ 64 ∧ (newE l 0) = (0, 0) ∧ ∃ (ap : Option Addr) (ac : Nat), e = .returned (.tuple #[.agg #[.slice ap l.length ac, .slice none 0 0], .int .i64 0, .int .i64 0]) ∧ RowA atC 17 w' ap l)) ∧ K0 w w' := by
  refine vc_xnew p l.length c w _ (fun n1 => bsp_intro (fun h => fun W hW => ⟨.inl ⟨by simp at h; omega, rfl⟩, hW.kk rfl⟩) (fun h => fun W hW => ?_))
  have h64 : l.length ≤ 64 := by simp at h; omega
  have kW : K0 w W := hW.kk rfl
  have b1 := hW.cells 0 rfl
  have g1 : w.heap.size ≤ n1 := hW.fresh 0 rfl rfl
  have l1 := block_lt b1
  simp only at l1
  refine ⟨fun vs w' => ∃ k : Nat, vs = [.int .i64 (k : Int)] ∧ k ≤ l.length ∧ newE (l.drop k) k = newE l 0 ∧ K0 W w',
    fun vs _ => (match vs with | .int _ x :: _ => l.length - x.toNat | _ => 0), ⟨0, rfl, by omega, rfl, .refl _ _⟩, ?_⟩
  rintro x w1 ⟨k, hv, hk, hE, k1⟩
  simp only [List.cons.injEq, Value.int.injEq, true_and, and_true] at hv
  subst hv
  have k01 := kW.trans k1
  refine bsp_intro (fun hlt => ?_) (fun hge => fun n2 W2 hW2 => ?_)
  · have hlt : k < l.length := by simp at hlt; omega
    obtain ⟨x, b2, o2, hx, hp, hat⟩ := (hR.k0 k01).get hlt
    have hxm := List.mem_of_getElem? hx
    rw [newE_step hx] at hE
    rw [Int.toNat_natCast]
    have hc0 := hat.cell (j := 0) (v := .string x.pt) rfl
    refine nn_is hp ⟨⟨by omega, by omega⟩, x.pt, hc0, ?_⟩
    refine ⟨(rparseList_any x.pt w1 (hsz x hxm)).mono fun e w2 ⟨k2, hQ⟩ => ?_⟩
    cases hl : listR x.pt with
    | inr oe =>
      obtain ⟨oo, ee⟩ := oe
      rw [hl] at hQ hE
      have hne := listR_err hl
      have hE : (k, ee) = newE l 0 := hE
      have hb2 := k2.blk (k1.blk b1 (fun h => h)) (fun h => h)
      refine ⟨_, _, _, _, _, hQ, .of_k0 k2, bsp_intro (fun _ => ⟨WrL_block hb2 (by show 0 + 2 ≤ 2; omega), fun w3 p3 => ?_⟩) (fun h => absurd h (by simpa using hne))⟩
      have hb3 := p3.block hb2
      exact ⟨.of_kp p3.kp (fun _ hx => by cases hx), _, _, _, _, _, _, AtL_block hb3 rfl, .inr (.inl ⟨h64, by rw [← hE]; exact hne, by rw [← hE]⟩), put_k0 (k01.trans k2) p3 g1⟩
    | inl es =>
      rw [hl] at hQ hE
      obtain ⟨p', n', c', L, he, _, _⟩ := hQ
      have hE : newE (l.drop (k + 1)) (k + 1) = newE l 0 := hE
      exact ⟨_, _, _, _, _, he, .of_k0 k2, bsp_intro (fun h => by cases h) (fun _ => ⟨⟨k + 1, by rw [inc64 (by omega)], hlt, hE, k1.trans k2⟩, by rw [inc64 (by omega)]; simp only [Int.toNat_natCast]; omega⟩)⟩
  · have hk2 : k = l.length := by simp at hge; omega
    subst hk2
    rw [List.drop_length] at hE
    have hE : (0, 0) = newE l 0 := hE
    have k2 : K0 w1 W2 := hW2.kk rfl
    have k02 := k01.trans k2
    have g2 : w1.heap.size ≤ n2 := hW2.fresh 0 rfl rfl
    have h0 := hW2.cells 0 rfl
    refine ⟨w1.heap.size, [], l.flatMap atC, own_none g2 h0, by rw [len_flat atC 17 l (fun y _ => atC_length y)], src_rowA (hR.k0 k02) atC_length atC_one (by decide), by omega, by omega, k2.size, fun p' c' w3 ho hg _ => ?_⟩
    rw [Nat.zero_add] at ho
    rw [Nat.zero_add]
    have kg : K0 w1 w3 := k2.fresh (kp_grown hg) (fun j hj e => by simp only [Value.ownBlock, Option.some.injEq] at e; omega)
    have hb3 := kg.blk (k1.blk b1 (fun h => h)) (fun h => h)
    refine ⟨⟨(kp_grown hg).size, fun _ hx => by cases hx⟩, WrL_block hb3 (by show 0 + 2 ≤ 2; omega), fun w4 p4 => ?_⟩
    have hb4 := p4.block hb3
    have ho : w3.ownsRow w1.heap.size 92 17 (.slice p' l.length c') l.length (l.flatMap atC) := by simpa using ho
    have hn1 : n1 < w1.heap.size := Nat.lt_of_lt_of_le l1 k1.size
    have ho4 := owns_kp ho p4.kp (fun j hj e => by have := own_ge ho hj; have e : j = n1 := e; omega)
    exact ⟨.of_kp p4.kp (fun _ hx => by cases hx), _, _, _, _, _, _, AtL_block hb4 rfl, .inr (.inr ⟨h64, hE.symm, p', c', rfl, RowA.own ho4 atC_length (by decide)⟩), put_k0 (k01.trans kg) p4 g1⟩
set_option maxHeartbeats 1000000 in
theorem xauth_any (A : List Au) (p : Option Addr) (c : Nat) (q : Option Addr) (k d : Nat) (s : ByteArray) (a : Nat → Int) (w : World) (hR : RowA atC 17 w p A) (hb : ∀ x ∈ A, BY x.au) (hl : A.length ≤ 64) (hL : ∀ x ∈ A, ∃ es, listR x.pt = .inl es) (hsz : ∀ x ∈ A, x.pt.size ≤ 1073741824) (ha : BY a) (hs : s.size ≤ 140737488355328) :
    Calls Tryz.prog 17 #[.agg #[.slice p A.length c, .slice q k d], .string s, .agg (arrI .u8 a 16 0).toArray] w fun e w' => e = .returned (.bool (isAu A s a)) ∧ K0 w w' := by
  refine vc_xauth p A.length c q k d s a w _ (fun n1 n2 W hW => ?_)
  have kW : K0 w W := hW.kk rfl
  refine ⟨fun vs w' => ∃ k : Nat, vs = [.int .i64 (k : Int)] ∧ k ≤ A.length ∧ isAu (A.drop k) s a = isAu A s a ∧ K0 w w',
    fun vs _ => (match vs with | .int _ x :: _ => A.length - x.toNat | _ => 0), ⟨0, rfl, by omega, rfl, kW⟩, ?_⟩
  rintro x w1 ⟨k, hv, hk, hI, k1⟩ _
  simp only [List.cons.injEq, Value.int.injEq, true_and, and_true] at hv
  subst hv
  refine bsp_intro (fun hlt => ?_) (fun hge => ?_)
  · have hlt : k < A.length := by simp at hlt; omega
    obtain ⟨x, b1, o1, hx, hp, hat⟩ := (hR.k0 k1).get hlt
    have hxm := List.mem_of_getElem? hx
    obtain ⟨es, hes⟩ := hL x hxm
    rw [isAu_step s a hx, hes] at hI
    have hI : ((decide (auI x.au = auI a) && (verd es s == 1)) || isAu (A.drop (k + 1)) s a) = isAu A s a := hI
    have hc0 := hat.cell (j := 0) (v := .string x.pt) rfl
    rw [Int.toNat_natCast]
    refine nn_is hp ⟨⟨by omega, by omega⟩, x.pt, hc0, ⟨(rparseList_any x.pt w1 (hsz x hxm)).mono fun e w2 ⟨k2, hQ⟩ => ?_⟩⟩
    rw [hes] at hQ
    obtain ⟨p', n', c', L, he, hRL, hrel⟩ := hQ
    have hls := listR_ok hes
    obtain ⟨l64, l80⟩ := relEs_len hrel hls.1 hls.2
    have k12 := k1.trans k2
    have hatx : AtL w2 b1 (o1 + k * 17 + 1) (arrI .u8 x.au 16 0) := ⟨At_of _ _ fun j v hv => by
      have := (hat.k0 k2).cell (j := j + 1) (v := v) (by simpa [atC] using hv)
      rw [show o1 + k * 17 + (j + 1) = o1 + k * 17 + 1 + j by omega] at this
      exact this⟩
    refine ⟨_, _, _, _, _, he, .of_k0 k2, nn_is hp ⟨⟨by omega, by omega⟩, x.au, fun W hW => hatx.k0 (hW.kk rfl), _, auEqR (hb x hxm) ha, fun W3 hW3 => ?_⟩⟩
    have k3 : K0 w2 W3 := hW3.kk rfl
    have k03 := k12.trans k3
    refine bsp_intro (fun hr => ?_) (fun hr => ?_)
    · refine ⟨(rverdict_any (hRL.kp k3) s hs l64 l80).mono fun e w4 ⟨he, k4⟩ => ⟨_, he, .of_k0 k4, bsp_intro (fun h1 => ?_) (fun h1 => ?_)⟩⟩
      · have h1 : (rverd (L.map (·.1)) s == 1) = true := by simpa using h1
        rw [← rel_verd hrel] at h1
        rw [hr, h1] at hI
        rw [← hI]
        exact ⟨rfl, k03.trans k4⟩
      · have h1 : (rverd (L.map (·.1)) s == 1) = false := by simpa using h1
        rw [← rel_verd hrel] at h1
        rw [h1, Bool.and_false, Bool.false_or] at hI
        exact ⟨⟨k + 1, by rw [inc64 (by omega)], hlt, hI, k03.trans k4⟩, by rw [inc64 (by omega)]; simp only [Int.toNat_natCast]; omega⟩
    · rw [hr, Bool.false_and, Bool.false_or] at hI
      exact ⟨.refl _ _, ⟨k + 1, by rw [inc64 (by omega)], hlt, hI, k03⟩, by rw [inc64 (by omega)]; simp only [Int.toNat_natCast]; omega⟩
  · have hk2 : k = A.length := by simp at hge; omega
    subst hk2
    rw [List.drop_length] at hI
    rw [← hI]
    exact ⟨rfl, k1⟩

end Go.Proofs.YtkkfnlehlkiejaaGreatDoor

/- Chapter 21: the contracts of the law's authorities, To, Of. No condition but sizes. -/
namespace Go.Proofs.YtkkfnlehlkiejaaGreatDoor
open Go.RowKit Go.Maps

def cutA (x : Au) : Au := ⟨x.pt.extract 0 (if (200 : Int) < (x.pt.size : Int) then (200 : Int) else (x.pt.size : Int)).toNat, x.au⟩
def autL (l : List Au) : List Au := (l.take 70).map cutA
theorem cutA_sz (x : Au) : (cutA x).pt.size ≤ 200 := by
  show (x.pt.extract 0 _).size ≤ 200
  rw [ByteArray.size_extract]
  split <;> omega
set_option maxHeartbeats 2000000 in
theorem lauths_any (l : List Au) (p : Option Addr) (c : Nat) (w : World) (hR : RowA atC 17 w p l) :
    Calls Tryz.prog 12 #[.slice p l.length c] w fun e w' => (∃ (p1 : Option Addr) (c1 : Nat) (p2 : Option Addr) (c2 : Nat), e = .returned (.tuple #[.slice p1 (autL l).length c1, .slice p2 (autL l).length c2]) ∧ RowA atC 17 w' p1 (autL l) ∧ RowA atC 17 w' p2 (autL l)) ∧ K0 w w' := by
  refine vc_lauths p l.length c w _ ?_
  refine ⟨fun vs w' => ∃ (k : Nat) (p1 : Option Addr) (c1 : Nat) (p2 : Option Addr) (c2 : Nat), vs = [.int .i64 (k : Int), .slice p2 k c2, .slice p1 k c1] ∧ k ≤ l.length ∧ k ≤ 70 ∧
      w'.ownsRow w.heap.size 94 17 (.slice p1 k c1) k (((l.take k).map cutA).flatMap atC) ∧ w'.ownsRow w.heap.size 92 17 (.slice p2 k c2) k (((l.take k).map cutA).flatMap atC) ∧ K0 w w',
    fun vs _ => (match vs with | .int _ x :: _ => l.length - x.toNat | _ => 0), ⟨0, none, 0, none, 0, rfl, by omega, by omega, World.ownsRow_nil _ _ _ _, World.ownsRow_nil _ _ _ _, .refl _ _⟩, ?_⟩
  rintro x p2' n2' c2' p1' n1' c1' w1 ⟨k, p1, c1, p2, c2, hv, hk, hk7, ho1, ho2, k1⟩
  simp only [List.cons.injEq, Value.int.injEq, Value.slice.injEq, true_and, and_true] at hv
  obtain ⟨rfl, ⟨rfl, rfl, rfl⟩, rfl, rfl, rfl⟩ := hv
  refine bsp_intro (fun hlt => fun W hW => ?_) (fun hge => ?_)
  · have hlt : n1' < l.length ∧ n1' < 70 := by simp at hlt; omega
    have kW : K0 w1 W := hW.kk rfl
    obtain ⟨x, b, o, hx, hp, hat⟩ := (hR.k0 (k1.trans kW)).get hlt.1
    rw [Int.toNat_natCast]
    have hc0 := hat.cell (j := 0) (v := .string x.pt) rfl
    rw [Nat.add_zero] at hc0
    have hau : ∀ wx, K0 W wx → AtL wx b (o + n1' * 17 + 1) (arrI .u8 x.au 16 0) := fun wx k => ⟨At_of _ _ fun j v hv => by
      have := (hat.k0 k).cell (j := j + 1) (v := v) (by simpa [atC] using hv)
      rw [show o + n1' * 17 + (j + 1) = o + n1' * 17 + 1 + j by omega] at this
      exact this⟩
    refine ⟨fun wx => K0 W wx, .refl _ _, nn_is hp ⟨⟨by omega, by omega⟩, x.pt, fun wx k => k.cell' hc0 (fun h => h), nn_is hp ⟨⟨by omega, by omega⟩, x.pt, fun wx k => k.cell' hc0 (fun h => h), ⟨by split <;> omega, by split <;> omega⟩, nn_is hp ⟨⟨by omega, by omega⟩, x.au, hau, fun n w2 hn => ⟨hn.kp _, WrL_block hn.block (by show 0 + 17 ≤ 17; omega), fun w3 p3 => ?_⟩⟩⟩⟩⟩
    have k3 : K0 W w3 := put_k0 (hn.kp _) p3 hn.ge
    have hb3 : w3.heap[n]? = some (.cells (atC (cutA x)).toArray 92 (0, 0)) := p3.full hn.block rfl
    have hnl3 := block_lt hb3
    refine ⟨.of_k0 k3, (cutA x).pt, cell_at hb3 rfl, x.au, AtL_block hb3 rfl, fun n4 W4 hW4 => ?_⟩
    have k4 : K0 w3 W4 := hW4.kk rfl
    have k04 := (kW.trans k3).trans k4
    have ho14 := owns_kp ho1 k04 (fun _ _ h => h)
    have ho24 := owns_kp ho2 k04 (fun _ _ h => h)
    have hb4 := k4.blk hb3 (fun h => h)
    have et : (l.take (n1' + 1)).map cutA = (l.take n1').map cutA ++ [cutA x] := by rw [take_snoc hx, List.map_append]; rfl
    have kw4 := k1.trans k04
    refine ⟨w.heap.size, _, ho14, by omega, by omega, kw4.size, fun q1 d1 w5 ho5 hg5 _ => ?_⟩
    have kg5 := kp_grown hg5
    have hb5 := kg5.blk hb4 (fun e => by
      obtain ⟨ct, hct⟩ := own_type ho14 e
      rw [hb4] at hct
      simp only [Option.some.injEq, Obj.cells.injEq] at hct
      exact absurd hct.2.1 (by decide))
    have k5 : K0 w w5 := kw4.fresh kg5 (fun j hj e => by have := own_ge ho14 e; omega)
    have ho25 := owns_kp ho24 kg5 (fun j h1 h2 => own_types ho24 ho14 (by decide) h1 h2)
    refine ⟨⟨kg5.size, fun _ hx => by cases hx⟩, (cutA x).pt, x.au, AtL_block hb5 rfl, fun n6 W6 hW6 => ?_⟩
    have k6 : K0 w5 W6 := hW6.kk rfl
    have ho26 := owns_kp ho25 k6 (fun _ _ h => h)
    have ho16 := owns_kp ho5 k6 (fun _ _ h => h)
    refine ⟨w.heap.size, _, ho26, by omega, by omega, (k5.trans k6).size, fun q2 d2 w7 ho7 hg7 _ => ?_⟩
    have kg7 := kp_grown hg7
    have ho17 := owns_kp ho16 kg7 (fun j h1 h2 => own_types ho16 ho26 (by decide) h1 h2)
    refine ⟨⟨kg7.size, fun _ hx => by cases hx⟩, ⟨n1' + 1, q1, d1, q2, d2, by rw [inc64 (by omega)], hlt.1, hlt.2, ?_, ?_, (k5.trans k6).fresh kg7 (fun j hj e => by have := own_ge ho26 e; omega)⟩, by rw [inc64 (by omega)]; simp only [Int.toNat_natCast]; omega⟩
    · rw [et, List.flatMap_append, List.flatMap_singleton]; exact ho17
    · rw [et, List.flatMap_append, List.flatMap_singleton]; exact ho7
  · have hk2 : l.take n1' = l.take 70 := by
      have : n1' = l.length ∨ n1' = 70 := by
        simp only [Bool.and_eq_false_iff, decide_eq_false_iff_not] at hge
        omega
      rcases this with h | h
      · rw [h, List.take_length, List.take_of_length_le (by omega)]
      · rw [h]
    have el : (autL l).length = n1' := by
      unfold autL
      rw [← hk2, List.length_map, List.length_take]; omega
    rw [hk2] at ho1 ho2
    rw [el]
    exact ⟨⟨p1', c1', p2', c2', rfl, RowA.own ho1 atC_length (by decide), RowA.own ho2 atC_length (by decide)⟩, k1⟩

/-! ### Definitions turned -/
def toD (d : Df) : Df := ⟨d.id, d.au, d.g.extract 0 (if (100 : Int) < (d.g.size : Int) then (100 : Int) else (d.g.size : Int)).toNat, d.v, d.rm, d.md, d.ms.take 10, d.tx.extract 0 (if (220 : Int) < (d.tx.size : Int) then (220 : Int) else (d.tx.size : Int)).toNat⟩
theorem toD_OK {d : Df} (h : d.OK) : (toD d).OK := ⟨h.id, h.au, fun m hm => h.ms m (List.mem_of_mem_take hm)⟩
def withMs (d : Df) (ms : List (Nat → Int)) : Df := ⟨d.id, d.au, d.g, d.v, d.rm, d.md, ms, d.tx⟩
set_option maxRecDepth 100000 in
set_option maxHeartbeats 4000000 in
theorem lto_any (x : DX) (w : World) (hR : RowA auC 16 w x.p x.d.ms) :
    Calls Tryz.prog 23 #[dfV x] w fun e w' => (∃ (q : Option Addr) (c : Nat), e = .returned (dfV ⟨toD x.d, q, c⟩) ∧ MO w' w.heap.size ⟨toD x.d, q, c⟩) ∧ K0 w w' := by
  obtain ⟨d, p, c⟩ := x
  refine vc_lto d.id d.au d.g d.v d.rm d.md p d.ms.length c d.tx w _ (fun n1 n2 W hW => ?_)
  have kW : K0 w W := hW.kk rfl
  have b1 := hW.cells 1 rfl
  have b2 := hW.cells 0 rfl
  have l1 := block_lt b1
  have l2 := block_lt b2
  simp only at l1 l2
  have b1x : ∀ wx, K0 W wx → wx.heap[n1]? = _ := fun wx k => k.blk b1 (fun h => h)
  simp only at hR
  refine ⟨fun wx => K0 W wx, .refl _ _, d.id, fun wx k => AtL_block (b1x wx k) rfl, d.au, fun wx k => AtL_block (b1x wx k) rfl, d.g, fun wx k => cell_at (b1x wx k) rfl, d.g, fun wx k => cell_at (b1x wx k) rfl, ⟨by split <;> omega, by split <;> omega⟩, d.v, fun wx k => cell_at (b1x wx k) rfl, d.rm, fun wx k => cell_at (b1x wx k) rfl, d.md, fun wx k => cell_at (b1x wx k) rfl, d.tx, fun wx k => cell_at (b1x wx k) rfl, d.tx, fun wx k => cell_at (b1x wx k) rfl, ⟨by split <;> omega, by split <;> omega⟩, fun n3 w2 hn3 => ⟨hn3.kp _, WrL_block hn3.block (by show 0 + 54 ≤ 54; omega), fun w3 p3 => ?_⟩⟩
  have k3 : K0 W w3 := put_k0 (hn3.kp _) p3 hn3.ge
  have g3 : W.heap.size ≤ n3 := hn3.ge
  have hb3 : w3.heap[n3]? = some (.cells (dfC ⟨withMs (toD d) [], none, 0⟩).toArray 56 (0, 0)) := p3.full hn3.block rfl
  refine ⟨.of_k0 k3, fun vs w' => ∃ (k : Nat) (q : Option Addr) (cq : Nat), vs = [.int .i64 (k : Int)] ∧ k ≤ d.ms.length ∧ k ≤ 10 ∧ w'.heap[n3]? = some (.cells (dfC ⟨withMs (toD d) (d.ms.take k), q, cq⟩).toArray 56 (0, 0)) ∧
      w'.ownsRow W.heap.size 53 16 (.slice q k cq) k ((d.ms.take k).flatMap auC) ∧ K0 W w',
    fun vs _ => (match vs with | .int _ x :: _ => d.ms.length - x.toNat | _ => 0), ⟨0, none, 0, rfl, by omega, by omega, hb3, World.ownsRow_nil _ _ _ _, k3⟩, ?_⟩
  rintro x w4 ⟨k, q, cq, hv, hk, hk10, hb4, ho4, k4⟩ _
  simp only [List.cons.injEq, Value.int.injEq, true_and, and_true] at hv
  subst hv
  have hlk : (d.ms.take k).length = k := by rw [List.length_take]; omega
  refine bsp_intro (fun hlt => fun W5 hW5 => ?_) (fun hge => ?_)
  · have hlt : k < d.ms.length ∧ k < 10 := by simp at hlt; omega
    have k5 : K0 w4 W5 := hW5.kk rfl
    have k05 := k4.trans k5
    have hb5 := k5.blk hb4 (fun h => h)
    obtain ⟨z, b, o, hz, hp, hat⟩ := (hR.k0 (kW.trans k05)).get hlt.1
    rw [Int.toNat_natCast]
    have hs52 : ∀ wx, K0 W5 wx → wx.cell? ⟨n3, 0 + 52, none⟩ = some (.slice q k cq) := fun wx k' => by
      have := cell_at (o := 0 + 52) (v := .slice q (d.ms.take k).length cq) (k'.blk hb5 (fun h => h)) rfl
      rw [hlk] at this
      exact this
    refine ⟨fun wx => K0 W5 wx, .refl _ _, q, k, cq, hs52, p, d.ms.length, c, fun wx k' => cell_at (b1x wx (k05.trans k')) rfl, nn_is hp ⟨⟨by omega, by omega⟩, z, fun wx k' => hat.k0 k', fun n6 w6 hn6 => ⟨hn6.kp _, ?_⟩⟩⟩
    have k6 : K0 W5 w6 := hn6.kp _
    have ho6 := owns_kp ho4 (k5.trans k6) (fun _ _ h => h)
    have hb6 := k6.blk hb5 (fun h => h)
    refine ⟨W.heap.size, (d.ms.take k).flatMap auC, auC z, ho6, auC_length z, src_block hn6.block (fun u hu => arr_one z 16 u hu), by omega, by omega, (k05.trans k6).size, fun q7 c7 w7 ho7 hg7 _ => ?_⟩
    have kg := kp_grown hg7
    have hb7 := kg.blk hb6 (fun e => by
      obtain ⟨ct, hct⟩ := own_type ho6 e
      rw [hb6] at hct
      simp only [Option.some.injEq, Obj.cells.injEq] at hct
      exact absurd hct.2.1 (by decide))
    refine ⟨cell_wr hb7 (by show 0 + 52 < 54; omega), fun w8 p8 => ?_⟩
    have et : d.ms.take (k + 1) = d.ms.take k ++ [z] := take_snoc hz
    have hb8 : w8.heap[n3]? = some (.cells (dfC ⟨withMs (toD d) (d.ms.take (k + 1)), q7, c7⟩).toArray 56 (0, 0)) := by
      rw [p8.block hb7]
      have el : (d.ms.take (k + 1)).length = k + 1 := by rw [List.length_take]; omega
      show some (Obj.cells (putL (dfC ⟨withMs (toD d) (d.ms.take k), q, cq⟩) 52 [.slice q7 (k + 1) c7]).toArray _ _) = some (Obj.cells (arrI .u8 d.id 32 0 ++ (arrI .u8 d.au 16 0 ++ ([.string (toD d).g, .int .i64 d.v, .bool d.rm, .bool d.md, .slice q7 (d.ms.take (k + 1)).length c7, .string (toD d).tx] : List Value))).toArray _ _)
      rw [el]; rfl
    have k8 : K0 W w8 := (k05.trans k6).fresh ((kg.mono fun _ _ h => Or.inl h).trans (p8.kp.mono fun _ _ h => Or.inr h) : Kp (fun j => (Value.slice q k cq).ownBlock = some j ∨ j = n3) w6 w8) (fun j hj e => by
      rcases e with e | e
      · have := own_ge ho6 e; omega
      · omega)
    refine ⟨.of_kp ((k6.mono fun _ _ h => h.elim).trans ((kg.mono fun _ _ h => Or.inl h).trans (p8.kp.mono fun _ _ h => Or.inr h) : Kp (fun j => (Value.slice q k cq).ownBlock = some j ∨ j = n3) w6 w8)) (fun y hy e => ?_), ⟨k + 1, q7, c7, by rw [inc64 (by omega)], hlt.1, hlt.2, hb8, ?_, k8⟩, by rw [inc64 (by omega)]; simp only [Int.toNat_natCast]; omega⟩
    · simp only [List.mem_cons, List.not_mem_nil, or_false] at hy
      rcases e with e | e
      · have := own_ge ho6 e; rcases hy with hy | hy <;> omega
      · rcases hy with hy | hy <;> omega
    · rw [et, List.flatMap_append, List.flatMap_singleton]
      refine owns_kp ho7 p8.kp (fun j hj e => ?_)
      have e : j = n3 := e
      subst e
      obtain ⟨ct, hct⟩ := own_type ho7 hj
      rw [hb7] at hct
      simp only [Option.some.injEq, Obj.cells.injEq] at hct
      exact absurd hct.2.1 (by decide)
  · have hk2 : d.ms.take k = d.ms.take 10 := by
      have : k = d.ms.length ∨ k = 10 := by
        simp only [Bool.and_eq_false_iff, decide_eq_false_iff_not] at hge
        omega
      rcases this with h | h
      · rw [h, List.take_length, List.take_of_length_le (by omega)]
      · rw [h]
    have hlk2 : (d.ms.take 10).length = k := by rw [← hk2]; exact hlk
    rw [hk2] at hb4 ho4
    refine ⟨_, _, _, _, _, _, _, _, _, _, AtL_block hb4 rfl, fun W5 hW5 => ⟨⟨q, cq, rfl, ?_⟩, hW5.k0 (kW.trans k4)⟩⟩
    have : MO w4 W.heap.size ⟨toD d, q, cq⟩ := by
      show w4.ownsRow _ _ _ (.slice q (d.ms.take 10).length cq) (d.ms.take 10).length _
      rw [hlk2]; exact ho4
    refine own_base (this.kp hW5.kp (fun j hj ⟨y, hy, hm, e⟩ => ?_)) kW.size
    have := own_ge this hj
    simp only [List.mem_cons, List.not_mem_nil, or_false] at hy
    rcases hy with rfl | rfl
    · have e : n2 = j := e
      omega
    · cases hm
/-- The moderators of a definition of the reference, in memory of their own. -/
def MOr (w : World) (B : Nat) (x : DX) : Prop := w.ownsRow B 23 16 (.slice x.p x.d.ms.length x.c) x.d.ms.length (x.d.ms.flatMap auC)
theorem MOr.row {w : World} {B : Nat} {x : DX} (h : MOr w B x) : RowA auC 16 w x.p x.d.ms := RowA.own h auC_length (by decide)
set_option maxRecDepth 100000 in
set_option maxHeartbeats 4000000 in
theorem lof_any (x : DX) (w : World) (hR : RowA auC 16 w x.p x.d.ms) (hl : x.d.ms.length ≤ 1000000) :
    Calls Tryz.prog 26 #[dfV x] w fun e w' => (∃ (q : Option Addr) (c : Nat), e = .returned (dfV ⟨x.d, q, c⟩) ∧ MOr w' w.heap.size ⟨x.d, q, c⟩) ∧ K0 w w' := by
  obtain ⟨d, p, c⟩ := x
  simp only at hR hl
  refine vc_lof d.id d.au d.g d.v d.rm d.md p d.ms.length c d.tx w _ (fun n1 n2 n3 W hW => ?_)
  have kW : K0 w W := hW.kk rfl
  have b1 := hW.cells 2 rfl
  have b2 := hW.cells 1 rfl
  have l1 := block_lt b1
  have l2 := block_lt b2
  have hb3 : W.heap[n3]? = some (.cells (dfC ⟨withMs d [], none, 0⟩).toArray 50 (0, 0)) := hW.cells 0 rfl
  have l3 := block_lt hb3
  have g3 : w.heap.size ≤ n3 := hW.le 0 rfl
  have a13 : n3 ≠ n1 := hW.apart 0 2 rfl rfl (by decide)
  have a23 : n3 ≠ n2 := hW.apart 0 1 rfl rfl (by decide)
  simp only at l1 l2
  refine ⟨fun vs w' => ∃ (k : Nat) (q : Option Addr) (cq : Nat), vs = [.int .i64 (k : Int)] ∧ k ≤ d.ms.length ∧ w'.heap[n3]? = some (.cells (dfC ⟨withMs d (d.ms.take k), q, cq⟩).toArray 50 (0, 0)) ∧
      w'.ownsRow W.heap.size 23 16 (.slice q k cq) k ((d.ms.take k).flatMap auC) ∧ Kp (fun j => j = n3 ∨ W.heap.size ≤ j) W w',
    fun vs _ => (match vs with | .int _ x :: _ => d.ms.length - x.toNat | _ => 0), ⟨0, none, 0, rfl, by omega, hb3, World.ownsRow_nil _ _ _ _, .refl _ _⟩, ?_⟩
  rintro x w4 ⟨k, q, cq, hv, hk, hb4, ho4, k4⟩ _
  simp only [List.cons.injEq, Value.int.injEq, true_and, and_true] at hv
  subst hv
  have kw4 : K0 w w4 := kW.fresh k4 (fun j hj e => by have := kW.size; rcases e with e | e <;> omega)
  have hlk : (d.ms.take k).length = k := by rw [List.length_take]; omega
  refine bsp_intro (fun hlt => fun W5 hW5 => ?_) (fun hge => ?_)
  · have hlt : k < d.ms.length := by simp at hlt; omega
    have k5 : K0 w4 W5 := hW5.kk rfl
    have b5 := hW5.cells 1 rfl
    have hb5 := k5.blk hb4 (fun h => h)
    obtain ⟨z, b, o, hz, hp, hat⟩ := (hR.k0 (kw4.trans k5)).get hlt
    rw [Int.toNat_natCast]
    have hs52 : ∀ wx, K0 W5 wx → wx.cell? ⟨n3, 0 + 52, none⟩ = some (.slice q k cq) := fun wx k' => by
      have := cell_at (o := 0 + 52) (v := .slice q (d.ms.take k).length cq) (k'.blk hb5 (fun h => h)) rfl
      rw [hlk] at this
      exact this
    refine ⟨fun wx => K0 W5 wx, .refl _ _, q, k, cq, hs52, p, d.ms.length, c, fun wx k' => cell_at (k'.blk b5 (fun h => h)) rfl, nn_is hp ⟨⟨by omega, by omega⟩, z, fun wx k' => hat.k0 k', fun n6 w6 hn6 => ⟨hn6.kp _, ?_⟩⟩⟩
    have k6 : K0 W5 w6 := hn6.kp _
    have ho6 := owns_kp ho4 (k5.trans k6) (fun _ _ h => h)
    have hb6 := k6.blk hb5 (fun h => h)
    refine ⟨W.heap.size, (d.ms.take k).flatMap auC, auC z, ho6, auC_length z, src_block hn6.block (fun u hu => arr_one z 16 u hu), by omega, by omega, Nat.le_trans k4.size (k5.trans k6).size, fun q7 c7 w7 ho7 hg7 _ => ?_⟩
    have kg := kp_grown hg7
    have hb7 := kg.blk hb6 (fun e => by have := own_ge ho6 e; omega)
    refine ⟨cell_wr hb7 (by show 0 + 52 < 54; omega), fun w8 p8 => ?_⟩
    have et : d.ms.take (k + 1) = d.ms.take k ++ [z] := take_snoc hz
    have hb8 : w8.heap[n3]? = some (.cells (dfC ⟨withMs d (d.ms.take (k + 1)), q7, c7⟩).toArray 50 (0, 0)) := by
      rw [p8.block hb7]
      have el : (d.ms.take (k + 1)).length = k + 1 := by rw [List.length_take]; omega
      show some (Obj.cells (putL (dfC ⟨withMs d (d.ms.take k), q, cq⟩) 52 [.slice q7 (k + 1) c7]).toArray _ _) = some (Obj.cells (arrI .u8 d.id 32 0 ++ (arrI .u8 d.au 16 0 ++ ([.string d.g, .int .i64 d.v, .bool d.rm, .bool d.md, .slice q7 (d.ms.take (k + 1)).length c7, .string d.tx] : List Value))).toArray _ _)
      rw [el]; rfl
    have k68 : Kp (fun j => (Value.slice q k cq).ownBlock = some j ∨ j = n3) w6 w8 := (kg.mono fun _ _ h => Or.inl h).trans (p8.kp.mono fun _ _ h => Or.inr h)
    refine ⟨.of_kp ((k6.mono fun _ _ h => h.elim).trans k68) (fun y hy e => ?_), ⟨k + 1, q7, c7, by rw [inc64 (by omega)], hlt, hb8, ?_, (k4.trans ((k5.trans k6).mono fun _ _ h => h.elim)).trans (k68.mono fun j hj e => ?_)⟩, by rw [inc64 (by omega)]; simp only [Int.toNat_natCast]; omega⟩
    · simp only [List.mem_cons, List.not_mem_nil, or_false] at hy
      rcases e with e | e
      · have := own_ge ho6 e; rcases hy with hy | hy <;> omega
      · rcases hy with hy | hy
        · exact a23 (by omega)
        · exact a13 (by omega)
    · rw [et, List.flatMap_append, List.flatMap_singleton]
      exact owns_kp ho7 p8.kp (fun j hj e => by have := own_ge ho7 hj; have e : j = n3 := e; omega)
    · rcases e with e | e
      · exact .inr (own_ge ho6 e)
      · exact .inl e
  · have hk2 : k = d.ms.length := by simp at hge; omega
    subst hk2
    rw [List.take_length] at hb4 ho4
    refine ⟨_, _, _, _, _, _, _, _, _, _, AtL_block hb4 rfl, fun W5 hW5 => ⟨⟨q, cq, rfl, ?_⟩, hW5.k0 kw4⟩⟩
    have : MOr w4 W.heap.size ⟨d, q, cq⟩ := ho4
    refine own_base (owns_kp this hW5.kp (fun j hj ⟨y, hy, hm, e⟩ => ?_)) kW.size
    have := own_ge this hj
    simp only [List.mem_cons, List.not_mem_nil, or_false] at hy
    rcases hy with rfl | rfl
    · have e : n2 = j := e
      omega
    · cases hm

end Go.Proofs.YtkkfnlehlkiejaaGreatDoor
