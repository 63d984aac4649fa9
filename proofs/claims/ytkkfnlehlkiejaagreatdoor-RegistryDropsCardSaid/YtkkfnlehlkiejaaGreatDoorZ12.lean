/- The formulas of functions by the symbolic evaluator, and that each gives the call's contract. Written by a program (gen.py). No condition. -/
import Derived.Test.YtkkfnlehlkiejaaGreatDoorProg
import Derived.Test.YtkkfnlehlkiejaaGreatDoorZ02
import Derived.Test.YtkkfnlehlkiejaaGreatDoorZ03
import Derived.Test.YtkkfnlehlkiejaaGreatDoorZ05
import Derived.KernelRfl
import Derived.Test.YtkkfnlehlkiejaaGreatDoorZ11
import Derived.Test.YtkkfnlehlkiejaaGreatDoorZ07
import Derived.Test.YtkkfnlehlkiejaaGreatDoorZ08
namespace Go.Proofs.YtkkfnlehlkiejaaGreatDoor
set_option maxRecDepth 100000
set_option linter.unusedVariables false

def VC_xless (id : Nat → Int) (au : Nat → Int) (g : ByteArray) (v : Int) (rm : Bool) (md : Bool) (p : Option Addr) (n : Nat) (c : Nat) (t : ByteArray) (id2 : Nat → Int) (au2 : Nat → Int) (g2 : ByteArray) (v2 : Int) (rm2 : Bool) (md2 : Bool) (p2 : Option Addr) (n2 : Nat) (c2 : Nat) (t2 : ByteArray) (w : World) (R : Ending → World → Prop) : Prop :=
 ∀ (n_1 n_2 : Nat),
 bsp (v != v2)
 (∀ (W : World),
 Loc w.heap.size
 [Blk.mk n_2 50
 (arrI IntKind.u8 id2 32 0 ++ (arrI IntKind.u8 au2 16 0 ++ [Value.string g2,
 Value.int IntKind.i64 v2, Value.bool rm2, Value.bool md2, Value.slice p2 n2 c2, Value.string t2]))
 2,
 Blk.mk n_1 50
 (arrI IntKind.u8 id 32 0 ++ (arrI IntKind.u8 au 16 0 ++ [Value.string g,
 Value.int IntKind.i64 v, Value.bool rm, Value.bool md, Value.slice p n c, Value.string t]))
 2]
 w W →
 R (Ending.returned (Value.bool (decide (v > v2)))) W)
 (∀ (W : World),
 Loc w.heap.size
 [Blk.mk n_2 50
 (arrI IntKind.u8 id2 32 0 ++ (arrI IntKind.u8 au2 16 0 ++ [Value.string g2,
 Value.int IntKind.i64 v2, Value.bool rm2, Value.bool md2, Value.slice p2 n2 c2, Value.string t2]))
 2,
 Blk.mk n_1 50
 (arrI IntKind.u8 id 32 0 ++ (arrI IntKind.u8 au 16 0 ++ [Value.string g,
 Value.int IntKind.i64 v, Value.bool rm, Value.bool md, Value.slice p n c, Value.string t]))
 2]
 w W →
 ∃ (s : ByteArray),
 (s.size = 32 ∧ BytesP W (some (Addr.mk n_1 0 none)) s) ∧
 ∃ (s_1 : ByteArray),
 (s_1.size = 32 ∧ BytesP W (some (Addr.mk n_2 0 none)) s_1) ∧
 R (Ending.returned (Value.bool (Op.bytesLess s.toList s_1.toList))) W)
theorem vc_xless (id : Nat → Int) (au : Nat → Int) (g : ByteArray) (v : Int) (rm : Bool) (md : Bool) (p : Option Addr) (n : Nat) (c : Nat) (t : ByteArray) (id2 : Nat → Int) (au2 : Nat → Int) (g2 : ByteArray) (v2 : Int) (rm2 : Bool) (md2 : Bool) (p2 : Option Addr) (n2 : Nat) (c2 : Nat) (t2 : ByteArray) (w : World) (R : Ending → World → Prop) (h : VC_xless id au g v rm md p n c t id2 au2 g2 v2 rm2 md2 p2 n2 c2 t2 w R) : Calls Tryz.prog 58 ([Value.agg
    (arrI IntKind.u8 id 32 0 ++
        (arrI IntKind.u8 au 16 0 ++
          [Value.string g, Value.int IntKind.i64 v, Value.bool rm, Value.bool md, Value.slice p n c,
            Value.string t])).toArray,
  Value.agg
    (arrI IntKind.u8 id2 32 0 ++
        (arrI IntKind.u8 au2 16 0 ++
          [Value.string g2, Value.int IntKind.i64 v2, Value.bool rm2, Value.bool md2, Value.slice p2 n2 c2,
            Value.string t2])).toArray] : List Value).toArray w R := by
  have e : execR2 { P := Tryz.prog, loops := [], pur := pur1, tails := [], joins := [], boxes := [] } Tryz.f58.results.toList R (Tryz.f58.body.getD .skip) (initF [Value.agg
    (arrI IntKind.u8 id 32 0 ++
        (arrI IntKind.u8 au 16 0 ++
          [Value.string g, Value.int IntKind.i64 v, Value.bool rm, Value.bool md, Value.slice p n c,
            Value.string t])).toArray,
  Value.agg
    (arrI IntKind.u8 id2 32 0 ++
        (arrI IntKind.u8 au2 16 0 ++
          [Value.string g2, Value.int IntKind.i64 v2, Value.bool rm2, Value.bool md2, Value.slice p2 n2 c2,
            Value.string
              t2])).toArray] (Tryz.f58.ntmps - ([Value.agg
    (arrI IntKind.u8 id 32 0 ++
        (arrI IntKind.u8 au 16 0 ++
          [Value.string g, Value.int IntKind.i64 v, Value.bool rm, Value.bool md, Value.slice p n c,
            Value.string t])).toArray,
  Value.agg
    (arrI IntKind.u8 id2 32 0 ++
        (arrI IntKind.u8 au2 16 0 ++
          [Value.string g2, Value.int IntKind.i64 v2, Value.bool rm2, Value.bool md2, Value.slice p2 n2 c2,
            Value.string
              t2])).toArray] : List Value).length)) w = VC_xless id au g v rm md p n c t id2 au2 g2 v2 rm2 md2 p2 n2 c2 t2 w R := by kernel_rfl
  have hb : Tryz.f58.body = some (Tryz.f58.body.getD .skip) := by kernel_rfl
  exact calls_of_exec2' (P := Tryz.prog) (fn := Tryz.f58) (c := Tryz.f58.body.getD .skip) (args := [Value.agg
    (arrI IntKind.u8 id 32 0 ++
        (arrI IntKind.u8 au 16 0 ++
          [Value.string g, Value.int IntKind.i64 v, Value.bool rm, Value.bool md, Value.slice p n c,
            Value.string t])).toArray,
  Value.agg
    (arrI IntKind.u8 id2 32 0 ++
        (arrI IntKind.u8 au2 16 0 ++
          [Value.string g2, Value.int IntKind.i64 v2, Value.bool rm2, Value.bool md2, Value.slice p2 n2 c2,
            Value.string t2])).toArray]) (w := w) (R := R) pur1_ok Tryz.func58 hb e h

def VC_xvers (ap : Option Addr) (an : Nat) (ac : Nat) (dp : Option Addr) (dn : Nat) (dc : Nat) (s : ByteArray) (w : World) (R : Ending → World → Prop) : Prop :=
 ∀ (n : Nat) (W : World),
 Loc w.heap.size [Blk.mk n 33 [Value.slice ap an ac, Value.slice dp dn dc] 2] w W →
 ∃ (I : List Value → World → Prop),
 ∃ (m : List Value → World → Nat),
 I [Value.int IntKind.i64 0, Value.slice none 0 0] W ∧
 ∀ (x : Int) (p : Option Addr) (n_1 c : Nat) (w' : World),
 I [Value.int IntKind.i64 x, Value.slice p n_1 c] w' →
 Loc w.heap.size [Blk.mk n 33 [Value.slice ap an ac, Value.slice dp dn dc] 0] w' w' →
 bsp (decide (x < (↑dn : Int)))
 (nn true dp fun (b o : Nat) =>
 (0 ≤ x ∧ x < (↑dn : Int)) ∧
 ∃ (x_1 : ByteArray),
 w'.cell? (Addr.mk b (o + x.toNat * 54 + 48) none) = some (Value.string x_1) ∧
 bsp (!x_1.toList == s.toList)
 (I [Value.int IntKind.i64 (IntKind.i64.wrap (x + 1)), Value.slice p n_1 c] w' ∧
 m [Value.int IntKind.i64 (IntKind.i64.wrap (x + 1)), Value.slice p n_1 c] w' <
 m [Value.int IntKind.i64 x, Value.slice p n_1 c] w')
 (∃ (I_1 : List Value → World → Prop),
 ∃ (m_1 : List Value → World → Nat),
 I_1 [Value.int IntKind.i64 (↑n_1 : Int)] w' ∧
 ∀ (x_2 : Int) (w'_1 : World),
 I_1 [Value.int IntKind.i64 x_2] w'_1 →
 Loc w.heap.size [Blk.mk n 33 [Value.slice ap an ac, Value.slice dp dn dc] 0] w'_1 w'_1 →
 ∃ (p_1 : Option Addr),
 ∃ (n_2 : Nat),
 ∃ (c_1 : Nat),
 gimp (decide (x_2 > 0))
 (∀ (W : World),
 Loc w.heap.size [Blk.mk n 33 [Value.slice ap an ac, Value.slice dp dn dc] 0] w'_1 W →
 W.cell? (Addr.mk n (0 + 1) none) = some (Value.slice p_1 n_2 c_1)) ∧
 nn (decide (x_2 > 0)) p_1 fun (b o : Nat) =>
 gimp (decide (x_2 > 0)) (0 ≤ x ∧ x < (↑n_2 : Int)) ∧
 ∃ (f : Nat → Int),
 ∃ (f_1 : Nat → Int),
 ∃ (x_3 : ByteArray),
 ∃ (x_4 : Int),
 ∃ (x_5 : Bool),
 ∃ (x_6 : Bool),
 ∃ (p_2 : Option Addr),
 ∃ (n_3 : Nat),
 ∃ (c_2 : Nat),
 ∃ (x_7 : ByteArray),
 gimp (decide (x_2 > 0))
 (∀ (W : World),
 Loc w.heap.size [Blk.mk n 33 [Value.slice ap an ac, Value.slice dp dn dc] 0] w'_1
 W →
 AtL W b (o + x.toNat * 54)
 (arrI IntKind.u8 f 32 0 ++ (arrI IntKind.u8 f_1 16 0 ++ [Value.string x_3, Value.int IntKind.i64 x_4, Value.bool x_5, Value.bool x_6,
 Value.slice p_2 n_3 c_2, Value.string x_7]))) ∧
 nn (decide (x_2 > 0)) p fun (b o : Nat) =>
 gimp (decide (x_2 > 0))
 (0 ≤ IntKind.i64.wrap (x_2 - 1) ∧ IntKind.i64.wrap (x_2 - 1) < (↑n_1 : Int)) ∧
 ∃ (f_2 : Nat → Int),
 ∃ (f_3 : Nat → Int),
 ∃ (x_8 : ByteArray),
 ∃ (x_9 : Int),
 ∃ (x_10 : Bool),
 ∃ (x_11 : Bool),
 ∃ (p_3 : Option Addr),
 ∃ (n_4 : Nat),
 ∃ (c_3 : Nat),
 ∃ (x_12 : ByteArray),
 gimp (decide (x_2 > 0))
 (∀ (W : World),
 Loc w.heap.size
 [Blk.mk n 33 [Value.slice ap an ac, Value.slice dp dn dc] 0] w'_1
 W →
 AtL W b (o + (IntKind.i64.wrap (x_2 - 1)).toNat * 54)
 (arrI IntKind.u8 f_2 32 0 ++ (arrI IntKind.u8 f_3 16 0 ++ [Value.string x_8, Value.int IntKind.i64 x_9, Value.bool x_10,
 Value.bool x_11, Value.slice p_3 n_4 c_3, Value.string x_12]))) ∧
 ∀ (W : World),
 Loc w.heap.size
 [Blk.mk n 33 [Value.slice ap an ac, Value.slice dp dn dc] 0] w'_1
 W →
 bsp (decide (x_2 > 0))
 (CallsS Tryz.prog 58
 #[Value.agg
 (arrI IntKind.u8 f 32 0 ++ (arrI IntKind.u8 f_1 16 0 ++ [Value.string x_3, Value.int IntKind.i64 x_4, Value.bool x_5,
 Value.bool x_6, Value.slice p_2 n_3 c_2, Value.string x_7])).toArray,
 Value.agg
 (arrI IntKind.u8 f_2 32 0 ++ (arrI IntKind.u8 f_3 16 0 ++ [Value.string x_8, Value.int IntKind.i64 x_9, Value.bool x_10,
 Value.bool x_11, Value.slice p_3 n_4 c_3, Value.string x_12])).toArray]
 W fun (e : Ending) (w'_2 : World) =>
 ∃ (x_13 : Bool),
 e = Ending.returned (Value.bool x_13) ∧
 KeptL [n] W w'_2 ∧
 bsp (true && x_13)
 (I_1 [Value.int IntKind.i64 (IntKind.i64.wrap (x_2 - 1))]
 w'_2 ∧
 m_1 [Value.int IntKind.i64 (IntKind.i64.wrap (x_2 - 1))]
 w'_2 <
 m_1 [Value.int IntKind.i64 x_2] w'_1)
 (∀ (n_5 : Nat),
 (0 ≤ x_2 ∧ x_2 ≤ (↑c : Int)) ∧
 ∀ (W : World),
 Loc w.heap.size
 [Blk.mk n 33 [Value.slice ap an ac, Value.slice dp dn dc]
 0,
 Blk.mk n_5 50 [] 2]
 w'_2 W →
 ∃ (base : Nat),
 ∃ (xs : List Value),
 ∃ (news : List Value),
 W.ownsRow base 50 54
 (Value.slice (some (Addr.mk n_5 0 none)) 0 0) 0 xs ∧
 news.length = x_2.toNat * 54 ∧
 SrcP W p news ∧
 0 + x_2.toNat ≤ 9223372036854775807 ∧
 (0 + x_2.toNat) * 120 ≤ 140737488355328 ∧
 base ≤ W.heap.size ∧
 ∀ (p' : Option Addr) (c' : Nat) (w'_3 : World),
 w'_3.ownsRow base 50 54
 (Value.slice p' (0 + x_2.toNat) c')
 (0 + x_2.toNat) (xs ++ news) →
 W.grownBy w'_3
 (Value.slice (some (Addr.mk n_5 0 none)) 0
 0).ownBlock →
 (0 + x_2.toNat ≤ 0 →
 p' = some (Addr.mk n_5 0 none) ∧ c' = 0) →
 KeptL [n] W w'_3 ∧
 nn true dp fun (b o : Nat) =>
 (0 ≤ x ∧ x < (↑dn : Int)) ∧
 ∃ (f : Nat → Int),
 ∃ (f_4 : Nat → Int),
 ∃ (x_14 : ByteArray),
 ∃ (x_15 : Int),
 ∃ (x_16 : Bool),
 ∃ (x_17 : Bool),
 ∃ (p_4 : Option Addr),
 ∃ (n_6 : Nat),
 ∃ (c_4 : Nat),
 ∃ (x_18 : ByteArray),
 AtL w'_3 b (o + x.toNat * 54)
 (arrI IntKind.u8 f 32 0 ++ (arrI IntKind.u8 f_4 16 0 ++ [Value.string x_14,
 Value.int IntKind.i64 x_15,
 Value.bool x_16,
 Value.bool x_17,
 Value.slice p_4 n_6 c_4,
 Value.string x_18])) ∧
 ∀ (n_7 : Nat) (W : World),
 Loc w.heap.size
 [Blk.mk n 33
 [Value.slice ap an ac,
 Value.slice dp dn dc]
 0,
 Blk.mk n_7 50
 (arrI IntKind.u8 f 32 0 ++ (arrI IntKind.u8 f_4 16 0 ++ [Value.string x_14,
 Value.int IntKind.i64
 x_15,
 Value.bool x_16,
 Value.bool x_17,
 Value.slice p_4 n_6 c_4,
 Value.string x_18]))
 2]
 w'_3 W →
 ∃ (base : Nat),
 ∃ (xs : List Value),
 W.ownsRow base 50 54
 (Value.slice p'
 (0 + x_2.toNat) c')
 (0 + x_2.toNat) xs ∧
 0 + x_2.toNat + 1 ≤
 9223372036854775807 ∧
 (0 + x_2.toNat + 1) *
 120 ≤
 140737488355328 ∧
 base ≤ W.heap.size ∧
 ∀ (p'_1 : Option Addr)
 (c'_1 : Nat)
 (w'_4 : World),
 w'_4.ownsRow base 50
 54
 (Value.slice p'_1
 (0 + x_2.toNat + 1)
 c'_1)
 (0 + x_2.toNat + 1)
 (xs ++
 (arrI IntKind.u8 f 32 0 ++ (arrI IntKind.u8 f_4 16 0 ++ [Value.string x_14,
 Value.int
 IntKind.i64 x_15,
 Value.bool x_16,
 Value.bool x_17,
 Value.slice p_4
 n_6 c_4,
 Value.string
 x_18]))) →
 W.grownBy w'_4
 (Value.slice p'
 (0 + x_2.toNat)
 c').ownBlock →
 (0 + x_2.toNat + 1 ≤
 c' →
 p'_1 = p' ∧
 c'_1 = c') →
 KeptL [n] W w'_4 ∧
 (0 ≤ x_2 ∧
 x_2 ≤
 (↑n_1 : Int)) ∧
 ∃ (base : Nat),
 ∃ (xs :
 List Value),
 ∃ (news :
 List Value),
 w'_4.ownsRow
 base 50 54
 (Value.slice
 p'_1
 (0 +
 x_2.toNat +
 1)
 c'_1)
 (0 +
 x_2.toNat +
 1)
 xs ∧
 news.length =
 (n_1 -
 x_2.toNat) *
 54 ∧
 SrcP w'_4
 (slA p c
 x_2.toNat
 54)
 news ∧
 0 +
 x_2.toNat +
 1 +
 (n_1 -
 x_2.toNat) ≤
 9223372036854775807 ∧
 (0 +
 x_2.toNat +
 1 +
 (n_1 -
 x_2.toNat)) *
 120 ≤
 140737488355328 ∧
 base ≤
 w'_4.heap.size ∧
 ∀
 (p' :
 Option
 Addr)
 (c' :
 Nat)
 (w'_5 :
 World),
 w'_5.ownsRow
 base
 50 54
 (Value.slice
 p'
 (0 +
 x_2.toNat +
 1 +
 (n_1 -
 x_2.toNat))
 c')
 (0 +
 x_2.toNat +
 1 +
 (n_1 -
 x_2.toNat))
 (xs ++
 news) →
 w'_4.grownBy
 w'_5
 (Value.slice
 p'_1
 (0 +
 x_2.toNat +
 1)
 c'_1).ownBlock →
 (0 +
 x_2.toNat +
 1 +
 (n_1 -
 x_2.toNat) ≤
 c'_1 →
 p' =
 p'_1 ∧
 c' =
 c'_1) →
 KeptL
 [n]
 w'_4
 w'_5 ∧
 I
 [Value.int
 IntKind.i64
 (IntKind.i64.wrap
 (x +
 1)),
 Value.slice
 p'
 (0 +
 x_2.toNat +
 1 +
 (n_1 -
 x_2.toNat))
 c']
 w'_5 ∧
 m
 [Value.int
 IntKind.i64
 (IntKind.i64.wrap
 (x +
 1)),
 Value.slice
 p'
 (0 +
 x_2.toNat +
 1 +
 (n_1 -
 x_2.toNat))
 c']
 w'_5 <
 m
 [Value.int
 IntKind.i64
 x,
 Value.slice
 p
 n_1
 c]
 w'))
 (KeptL [n] W W ∧
 ∀ (n_5 : Nat),
 (0 ≤ x_2 ∧ x_2 ≤ (↑c : Int)) ∧
 ∀ (W_1 : World),
 Loc w.heap.size
 [Blk.mk n 33 [Value.slice ap an ac, Value.slice dp dn dc] 0,
 Blk.mk n_5 50 [] 2]
 W W_1 →
 ∃ (base : Nat),
 ∃ (xs : List Value),
 ∃ (news : List Value),
 W_1.ownsRow base 50 54
 (Value.slice (some (Addr.mk n_5 0 none)) 0 0) 0 xs ∧
 news.length = x_2.toNat * 54 ∧
 SrcP W_1 p news ∧
 0 + x_2.toNat ≤ 9223372036854775807 ∧
 (0 + x_2.toNat) * 120 ≤ 140737488355328 ∧
 base ≤ W_1.heap.size ∧
 ∀ (p' : Option Addr) (c' : Nat) (w'_2 : World),
 w'_2.ownsRow base 50 54
 (Value.slice p' (0 + x_2.toNat) c')
 (0 + x_2.toNat) (xs ++ news) →
 W_1.grownBy w'_2
 (Value.slice (some (Addr.mk n_5 0 none)) 0
 0).ownBlock →
 (0 + x_2.toNat ≤ 0 →
 p' = some (Addr.mk n_5 0 none) ∧ c' = 0) →
 KeptL [n] W_1 w'_2 ∧
 nn true dp fun (b o : Nat) =>
 (0 ≤ x ∧ x < (↑dn : Int)) ∧
 ∃ (f : Nat → Int),
 ∃ (f_4 : Nat → Int),
 ∃ (x_13 : ByteArray),
 ∃ (x_14 : Int),
 ∃ (x_15 : Bool),
 ∃ (x_16 : Bool),
 ∃ (p_4 : Option Addr),
 ∃ (n_6 : Nat),
 ∃ (c_4 : Nat),
 ∃ (x_17 : ByteArray),
 AtL w'_2 b (o + x.toNat * 54)
 (arrI IntKind.u8 f 32 0 ++ (arrI IntKind.u8 f_4 16 0 ++ [Value.string x_13,
 Value.int IntKind.i64 x_14,
 Value.bool x_15, Value.bool x_16,
 Value.slice p_4 n_6 c_4,
 Value.string x_17])) ∧
 ∀ (n_7 : Nat) (W : World),
 Loc w.heap.size
 [Blk.mk n 33
 [Value.slice ap an ac,
 Value.slice dp dn dc]
 0,
 Blk.mk n_7 50
 (arrI IntKind.u8 f 32 0 ++ (arrI IntKind.u8 f_4 16 0 ++ [Value.string x_13,
 Value.int IntKind.i64 x_14,
 Value.bool x_15,
 Value.bool x_16,
 Value.slice p_4 n_6 c_4,
 Value.string x_17]))
 2]
 w'_2 W →
 ∃ (base : Nat),
 ∃ (xs : List Value),
 W.ownsRow base 50 54
 (Value.slice p'
 (0 + x_2.toNat) c')
 (0 + x_2.toNat) xs ∧
 0 + x_2.toNat + 1 ≤
 9223372036854775807 ∧
 (0 + x_2.toNat + 1) * 120 ≤
 140737488355328 ∧
 base ≤ W.heap.size ∧
 ∀ (p'_1 : Option Addr)
 (c'_1 : Nat)
 (w'_3 : World),
 w'_3.ownsRow base 50 54
 (Value.slice p'_1
 (0 + x_2.toNat + 1)
 c'_1)
 (0 + x_2.toNat + 1)
 (xs ++
 (arrI IntKind.u8 f 32 0 ++ (arrI IntKind.u8 f_4 16 0 ++ [Value.string x_13,
 Value.int IntKind.i64
 x_14,
 Value.bool x_15,
 Value.bool x_16,
 Value.slice p_4 n_6
 c_4,
 Value.string x_17]))) →
 W.grownBy w'_3
 (Value.slice p'
 (0 + x_2.toNat)
 c').ownBlock →
 (0 + x_2.toNat + 1 ≤
 c' →
 p'_1 = p' ∧
 c'_1 = c') →
 KeptL [n] W w'_3 ∧
 (0 ≤ x_2 ∧
 x_2 ≤
 (↑n_1 : Int)) ∧
 ∃ (base : Nat),
 ∃ (xs : List Value),
 ∃ (news :
 List Value),
 w'_3.ownsRow base
 50 54
 (Value.slice
 p'_1
 (0 +
 x_2.toNat +
 1)
 c'_1)
 (0 + x_2.toNat +
 1)
 xs ∧
 news.length =
 (n_1 -
 x_2.toNat) *
 54 ∧
 SrcP w'_3
 (slA p c
 x_2.toNat 54)
 news ∧
 0 + x_2.toNat +
 1 +
 (n_1 -
 x_2.toNat) ≤
 9223372036854775807 ∧
 (0 +
 x_2.toNat +
 1 +
 (n_1 -
 x_2.toNat)) *
 120 ≤
 140737488355328 ∧
 base ≤
 w'_3.heap.size ∧
 ∀
 (p' :
 Option
 Addr)
 (c' : Nat)
 (w'_4 :
 World),
 w'_4.ownsRow
 base 50
 54
 (Value.slice
 p'
 (0 +
 x_2.toNat +
 1 +
 (n_1 -
 x_2.toNat))
 c')
 (0 +
 x_2.toNat +
 1 +
 (n_1 -
 x_2.toNat))
 (xs ++
 news) →
 w'_3.grownBy
 w'_4
 (Value.slice
 p'_1
 (0 +
 x_2.toNat +
 1)
 c'_1).ownBlock →
 (0 +
 x_2.toNat +
 1 +
 (n_1 -
 x_2.toNat) ≤
 c'_1 →
 p' =
 p'_1 ∧
 c' =
 c'_1) →
 KeptL
 [n]
 w'_3
 w'_4 ∧
 I
 [Value.int
 IntKind.i64
 (IntKind.i64.wrap
 (x +
 1)),
 Value.slice
 p'
 (0 +
 x_2.toNat +
 1 +
 (n_1 -
 x_2.toNat))
 c']
 w'_4 ∧
 m
 [Value.int
 IntKind.i64
 (IntKind.i64.wrap
 (x +
 1)),
 Value.slice
 p'
 (0 +
 x_2.toNat +
 1 +
 (n_1 -
 x_2.toNat))
 c']
 w'_4 <
 m
 [Value.int
 IntKind.i64
 x,
 Value.slice
 p
 n_1
 c]
 w')))
 (R (Ending.returned (Value.slice p n_1 c)) w')
theorem vc_xvers (ap : Option Addr) (an : Nat) (ac : Nat) (dp : Option Addr) (dn : Nat) (dc : Nat) (s : ByteArray) (w : World) (R : Ending → World → Prop) (h : VC_xvers ap an ac dp dn dc s w R) : Calls Tryz.prog 34 ([Value.agg
    #[Value.slice ap an ac, Value.slice dp dn dc],
  Value.string s] : List Value).toArray w R := by
  have e : execR2 { P := Tryz.prog, loops := [(3, [(6, Ck.int IntKind.i64), (5, Ck.slice)]), (7, [(7, Ck.int IntKind.i64)])], pur := pur1, tails := [(7, 13)], joins := [], boxes := [] } Tryz.f34.results.toList R (Tryz.f34.body.getD .skip) (initF [Value.agg
    #[Value.slice ap an ac, Value.slice dp dn dc],
  Value.string
    s] (Tryz.f34.ntmps - ([Value.agg #[Value.slice ap an ac, Value.slice dp dn dc],
  Value.string s] : List Value).length)) w = VC_xvers ap an ac dp dn dc s w R := by kernel_rfl
  have hb : Tryz.f34.body = some (Tryz.f34.body.getD .skip) := by kernel_rfl
  exact calls_of_exec2' (P := Tryz.prog) (fn := Tryz.f34) (c := Tryz.f34.body.getD .skip) (args := [Value.agg
    #[Value.slice ap an ac, Value.slice dp dn dc],
  Value.string s]) (w := w) (R := R) pur1_ok Tryz.func34 hb e h

def VC_xcur (ap : Option Addr) (an : Nat) (ac : Nat) (dp : Option Addr) (dn : Nat) (dc : Nat) (s : ByteArray) (w : World) (R : Ending → World → Prop) : Prop :=
 ∀ (n n_1 : Nat) (W : World),
 Loc w.heap.size
 [Blk.mk n_1 50
 [Value.int IntKind.u8 0, Value.int IntKind.u8 0, Value.int IntKind.u8 0, Value.int IntKind.u8 0,
 Value.int IntKind.u8 0, Value.int IntKind.u8 0, Value.int IntKind.u8 0, Value.int IntKind.u8 0,
 Value.int IntKind.u8 0, Value.int IntKind.u8 0, Value.int IntKind.u8 0, Value.int IntKind.u8 0,
 Value.int IntKind.u8 0, Value.int IntKind.u8 0, Value.int IntKind.u8 0, Value.int IntKind.u8 0,
 Value.int IntKind.u8 0, Value.int IntKind.u8 0, Value.int IntKind.u8 0, Value.int IntKind.u8 0,
 Value.int IntKind.u8 0, Value.int IntKind.u8 0, Value.int IntKind.u8 0, Value.int IntKind.u8 0,
 Value.int IntKind.u8 0, Value.int IntKind.u8 0, Value.int IntKind.u8 0, Value.int IntKind.u8 0,
 Value.int IntKind.u8 0, Value.int IntKind.u8 0, Value.int IntKind.u8 0, Value.int IntKind.u8 0,
 Value.int IntKind.u8 0, Value.int IntKind.u8 0, Value.int IntKind.u8 0, Value.int IntKind.u8 0,
 Value.int IntKind.u8 0, Value.int IntKind.u8 0, Value.int IntKind.u8 0, Value.int IntKind.u8 0,
 Value.int IntKind.u8 0, Value.int IntKind.u8 0, Value.int IntKind.u8 0, Value.int IntKind.u8 0,
 Value.int IntKind.u8 0, Value.int IntKind.u8 0, Value.int IntKind.u8 0, Value.int IntKind.u8 0,
 Value.string (ByteArray.mk #[]), Value.int IntKind.i64 0, Value.bool false, Value.bool false,
 Value.slice none 0 0, Value.string (ByteArray.mk #[])]
 2,
 Blk.mk n 33 [Value.slice ap an ac, Value.slice dp dn dc] 2]
 w W →
 CallsS Tryz.prog 34 #[Value.agg #[Value.slice ap an ac, Value.slice dp dn dc], Value.string s] W
 fun (e : Ending) (w' : World) =>
 ∃ (p : Option Addr),
 ∃ (n_2 : Nat),
 ∃ (c : Nat),
 e = Ending.returned (Value.slice p n_2 c) ∧
 KeptL [n_1, n] W w' ∧
 nn (!(↑n_2 : Int) == 0) p fun (b o : Nat) =>
 gimp (!(↑n_2 : Int) == 0) ((0 : Int) ≤ 0 ∧ 0 < (↑n_2 : Int)) ∧
 ∃ (x : Bool),
 gimp (!(↑n_2 : Int) == 0) (w'.cell? (Addr.mk b (o + 50) none) = some (Value.bool x)) ∧
 bsp ((↑n_2 : Int) == 0 || x)
 (∀ (W : World),
 Loc w.heap.size
 [Blk.mk n_1 50
 [Value.int IntKind.u8 0, Value.int IntKind.u8 0, Value.int IntKind.u8 0, Value.int IntKind.u8 0,
 Value.int IntKind.u8 0, Value.int IntKind.u8 0, Value.int IntKind.u8 0, Value.int IntKind.u8 0,
 Value.int IntKind.u8 0, Value.int IntKind.u8 0, Value.int IntKind.u8 0, Value.int IntKind.u8 0,
 Value.int IntKind.u8 0, Value.int IntKind.u8 0, Value.int IntKind.u8 0, Value.int IntKind.u8 0,
 Value.int IntKind.u8 0, Value.int IntKind.u8 0, Value.int IntKind.u8 0, Value.int IntKind.u8 0,
 Value.int IntKind.u8 0, Value.int IntKind.u8 0, Value.int IntKind.u8 0, Value.int IntKind.u8 0,
 Value.int IntKind.u8 0, Value.int IntKind.u8 0, Value.int IntKind.u8 0, Value.int IntKind.u8 0,
 Value.int IntKind.u8 0, Value.int IntKind.u8 0, Value.int IntKind.u8 0, Value.int IntKind.u8 0,
 Value.int IntKind.u8 0, Value.int IntKind.u8 0, Value.int IntKind.u8 0, Value.int IntKind.u8 0,
 Value.int IntKind.u8 0, Value.int IntKind.u8 0, Value.int IntKind.u8 0, Value.int IntKind.u8 0,
 Value.int IntKind.u8 0, Value.int IntKind.u8 0, Value.int IntKind.u8 0, Value.int IntKind.u8 0,
 Value.int IntKind.u8 0, Value.int IntKind.u8 0, Value.int IntKind.u8 0, Value.int IntKind.u8 0,
 Value.string (ByteArray.mk #[]), Value.int IntKind.i64 0, Value.bool false, Value.bool false,
 Value.slice none 0 0, Value.string (ByteArray.mk #[])]
 (wrM 0),
 Blk.mk n 33 [Value.slice ap an ac, Value.slice dp dn dc] 0]
 w' W →
 R
 (Ending.returned
 (Value.tuple
 #[Value.agg
 #[Value.int IntKind.u8 0, Value.int IntKind.u8 0, Value.int IntKind.u8 0, Value.int IntKind.u8 0,
 Value.int IntKind.u8 0, Value.int IntKind.u8 0, Value.int IntKind.u8 0, Value.int IntKind.u8 0,
 Value.int IntKind.u8 0, Value.int IntKind.u8 0, Value.int IntKind.u8 0, Value.int IntKind.u8 0,
 Value.int IntKind.u8 0, Value.int IntKind.u8 0, Value.int IntKind.u8 0, Value.int IntKind.u8 0,
 Value.int IntKind.u8 0, Value.int IntKind.u8 0, Value.int IntKind.u8 0, Value.int IntKind.u8 0,
 Value.int IntKind.u8 0, Value.int IntKind.u8 0, Value.int IntKind.u8 0, Value.int IntKind.u8 0,
 Value.int IntKind.u8 0, Value.int IntKind.u8 0, Value.int IntKind.u8 0, Value.int IntKind.u8 0,
 Value.int IntKind.u8 0, Value.int IntKind.u8 0, Value.int IntKind.u8 0, Value.int IntKind.u8 0,
 Value.int IntKind.u8 0, Value.int IntKind.u8 0, Value.int IntKind.u8 0, Value.int IntKind.u8 0,
 Value.int IntKind.u8 0, Value.int IntKind.u8 0, Value.int IntKind.u8 0, Value.int IntKind.u8 0,
 Value.int IntKind.u8 0, Value.int IntKind.u8 0, Value.int IntKind.u8 0, Value.int IntKind.u8 0,
 Value.int IntKind.u8 0, Value.int IntKind.u8 0, Value.int IntKind.u8 0, Value.int IntKind.u8 0,
 Value.string (ByteArray.mk #[]), Value.int IntKind.i64 0, Value.bool false, Value.bool false,
 Value.slice none 0 0, Value.string (ByteArray.mk #[])],
 Value.bool false]))
 W)
 (nn true p fun (b o : Nat) =>
 ((0 : Int) ≤ 0 ∧ 0 < (↑n_2 : Int)) ∧
 ∃ (f : Nat → Int),
 ∃ (f_1 : Nat → Int),
 ∃ (x : ByteArray),
 ∃ (x_1 : Int),
 ∃ (x_2 : Bool),
 ∃ (x_3 : Bool),
 ∃ (p : Option Addr),
 ∃ (n_3 : Nat),
 ∃ (c : Nat),
 ∃ (x_4 : ByteArray),
 AtL w' b o
 (arrI IntKind.u8 f 32 0 ++ (arrI IntKind.u8 f_1 16 0 ++ [Value.string x, Value.int IntKind.i64 x_1, Value.bool x_2, Value.bool x_3,
 Value.slice p n_3 c, Value.string x_4])) ∧
 ∀ (W : World),
 Loc w.heap.size
 [Blk.mk n_1 50
 (arrI IntKind.u8 f 32 0 ++ (arrI IntKind.u8 f_1 16 0 ++ [Value.string x, Value.int IntKind.i64 x_1,
 Value.bool x_2, Value.bool x_3, Value.slice p n_3 c, Value.string x_4]))
 (wrM 0),
 Blk.mk n 33 [Value.slice ap an ac, Value.slice dp dn dc] 0]
 w' W →
 R
 (Ending.returned
 (Value.tuple
 #[Value.agg
 (arrI IntKind.u8 f 32 0 ++ (arrI IntKind.u8 f_1 16 0 ++ [Value.string x,
 Value.int IntKind.i64 x_1, Value.bool x_2, Value.bool x_3, Value.slice p n_3 c,
 Value.string x_4])).toArray,
 Value.bool true]))
 W)
theorem vc_xcur (ap : Option Addr) (an : Nat) (ac : Nat) (dp : Option Addr) (dn : Nat) (dc : Nat) (s : ByteArray) (w : World) (R : Ending → World → Prop) (h : VC_xcur ap an ac dp dn dc s w R) : Calls Tryz.prog 30 ([Value.agg
    #[Value.slice ap an ac, Value.slice dp dn dc],
  Value.string s] : List Value).toArray w R := by
  have e : execR2 { P := Tryz.prog, loops := [], pur := pur1, tails := [], joins := [], boxes := [] } Tryz.f30.results.toList R (Tryz.f30.body.getD .skip) (initF [Value.agg
    #[Value.slice ap an ac, Value.slice dp dn dc],
  Value.string
    s] (Tryz.f30.ntmps - ([Value.agg #[Value.slice ap an ac, Value.slice dp dn dc],
  Value.string s] : List Value).length)) w = VC_xcur ap an ac dp dn dc s w R := by kernel_rfl
  have hb : Tryz.f30.body = some (Tryz.f30.body.getD .skip) := by kernel_rfl
  exact calls_of_exec2' (P := Tryz.prog) (fn := Tryz.f30) (c := Tryz.f30.body.getD .skip) (args := [Value.agg
    #[Value.slice ap an ac, Value.slice dp dn dc],
  Value.string s]) (w := w) (R := R) pur1_ok Tryz.func30 hb e h

def VC_xever (ap : Option Addr) (an : Nat) (ac : Nat) (dp : Option Addr) (dn : Nat) (dc : Nat) (s : ByteArray) (a : Nat → Int) (w : World) (R : Ending → World → Prop) : Prop :=
 ∀ (n n_1 : Nat) (W : World),
 Loc w.heap.size
 [Blk.mk n_1 23
 (arrI IntKind.u8 a 16 0)
 2,
 Blk.mk n 33 [Value.slice ap an ac, Value.slice dp dn dc] 2]
 w W →
 ∃ (I : List Value → World → Prop),
 ∃ (m : List Value → World → Nat),
 I [Value.int IntKind.i64 0] W ∧
 ∀ (x : Int) (w' : World),
 I [Value.int IntKind.i64 x] w' →
 Loc w.heap.size
 [Blk.mk n_1 23
 (arrI IntKind.u8 a 16 0)
 0,
 Blk.mk n 33 [Value.slice ap an ac, Value.slice dp dn dc] 0]
 w' w' →
 bsp (decide (x < (↑dn : Int)))
 (∃ (I_1 : List Value → World → Prop),
 ∃ (m_1 : List Value → World → Nat),
 I_1 [Value.int IntKind.i64 0] w' ∧
 ∀ (x_1 : Int) (w'_1 : World),
 I_1 [Value.int IntKind.i64 x_1] w'_1 →
 Loc w.heap.size
 [Blk.mk n_1 23
 (arrI IntKind.u8 a 16 0)
 0,
 Blk.mk n 33 [Value.slice ap an ac, Value.slice dp dn dc] 0]
 w'_1 w'_1 →
 nn true dp fun (b o : Nat) =>
 (0 ≤ x ∧ x < (↑dn : Int)) ∧
 ∃ (p : Option Addr),
 ∃ (n_2 : Nat),
 ∃ (c : Nat),
 w'_1.cell? (Addr.mk b (o + x.toNat * 54 + 52) none) = some (Value.slice p n_2 c) ∧
 bsp (decide (x_1 < (↑n_2 : Int)))
 (nn true dp fun (b o : Nat) =>
 (0 ≤ x ∧ x < (↑dn : Int)) ∧
 ∃ (x_2 : ByteArray),
 (∀ (W : World),
 Loc w.heap.size
 [Blk.mk n_1 23
 (arrI IntKind.u8 a 16 0)
 0,
 Blk.mk n 33 [Value.slice ap an ac, Value.slice dp dn dc] 0]
 w'_1 W →
 W.cell? (Addr.mk b (o + x.toNat * 54 + 48) none) = some (Value.string x_2)) ∧
 ∃ (p : Option Addr),
 ∃ (n_3 : Nat),
 ∃ (c : Nat),
 gimp (x_2.toList == s.toList)
 (∀ (W : World),
 Loc w.heap.size
 [Blk.mk n_1 23
 (arrI IntKind.u8 a 16 0)
 0,
 Blk.mk n 33 [Value.slice ap an ac, Value.slice dp dn dc] 0]
 w'_1 W →
 W.cell? (Addr.mk n (0 + 1) none) = some (Value.slice p n_3 c)) ∧
 nn (x_2.toList == s.toList) p fun (b o : Nat) =>
 gimp (x_2.toList == s.toList) (0 ≤ x ∧ x < (↑n_3 : Int)) ∧
 ∃ (p : Option Addr),
 ∃ (n_4 : Nat),
 ∃ (c : Nat),
 gimp (x_2.toList == s.toList)
 (∀ (W : World),
 Loc w.heap.size
 [Blk.mk n_1 23
 (arrI IntKind.u8 a 16 0)
 0,
 Blk.mk n 33 [Value.slice ap an ac, Value.slice dp dn dc] 0]
 w'_1 W →
 W.cell? (Addr.mk b (o + x.toNat * 54 + 52) none) = some (Value.slice p n_4 c)) ∧
 nn (x_2.toList == s.toList) p fun (b o : Nat) =>
 gimp (x_2.toList == s.toList) (0 ≤ x_1 ∧ x_1 < (↑n_4 : Int)) ∧
 ∃ (f : Nat → Int),
 gimp (x_2.toList == s.toList)
 (∀ (W : World),
 Loc w.heap.size
 [Blk.mk n_1 23
 (arrI IntKind.u8 a 16 0)
 0,
 Blk.mk n 33 [Value.slice ap an ac, Value.slice dp dn dc] 0]
 w'_1 W →
 AtL W b (o + x_1.toNat * 16)
 (arrI IntKind.u8 f 16 0)) ∧
 ∃ (r : Bool),
 gimp (x_2.toList == s.toList)
 (EqP Tryz.prog 23
 (Value.agg
 (arrI IntKind.u8 f 16 0).toArray)
 (Value.agg
 (arrI IntKind.u8 a 16 0).toArray)
 r) ∧
 bsp (x_2.toList == s.toList && r)
 (∀ (W : World),
 Loc w.heap.size
 [Blk.mk n_1 23
 (arrI IntKind.u8 a 16 0)
 0,
 Blk.mk n 33 [Value.slice ap an ac, Value.slice dp dn dc] 0]
 w'_1 W →
 R (Ending.returned (Value.bool true)) W)
 (∀ (W : World),
 Loc w.heap.size
 [Blk.mk n_1 23
 (arrI IntKind.u8 a 16 0)
 0,
 Blk.mk n 33 [Value.slice ap an ac, Value.slice dp dn dc] 0]
 w'_1 W →
 I_1 [Value.int IntKind.i64 (IntKind.i64.wrap (x_1 + 1))] W ∧
 m_1 [Value.int IntKind.i64 (IntKind.i64.wrap (x_1 + 1))] W <
 m_1 [Value.int IntKind.i64 x_1] w'_1))
 (I [Value.int IntKind.i64 (IntKind.i64.wrap (x + 1))] w'_1 ∧
 m [Value.int IntKind.i64 (IntKind.i64.wrap (x + 1))] w'_1 < m [Value.int IntKind.i64 x] w'))
 (R (Ending.returned (Value.bool false)) w')
theorem vc_xever (ap : Option Addr) (an : Nat) (ac : Nat) (dp : Option Addr) (dn : Nat) (dc : Nat) (s : ByteArray) (a : Nat → Int) (w : World) (R : Ending → World → Prop) (h : VC_xever ap an ac dp dn dc s a w R) : Calls Tryz.prog 21 ([Value.agg
    #[Value.slice ap an ac, Value.slice dp dn dc],
  Value.string s, Value.agg (arrI IntKind.u8 a 16 0).toArray] : List Value).toArray w R := by
  have e : execR2 { P := Tryz.prog, loops := [(2, [(7, Ck.int IntKind.i64)]), (5, [(8, Ck.int IntKind.i64)])], pur := pur1, tails := [], joins := [], boxes := [] } Tryz.f21.results.toList R (Tryz.f21.body.getD .skip) (initF [Value.agg
    #[Value.slice ap an ac, Value.slice dp dn dc],
  Value.string s,
  Value.agg
    (arrI IntKind.u8 a 16
        0).toArray] (Tryz.f21.ntmps - ([Value.agg #[Value.slice ap an ac, Value.slice dp dn dc], Value.string s,
  Value.agg
    (arrI IntKind.u8 a 16 0).toArray] : List Value).length)) w = VC_xever ap an ac dp dn dc s a w R := by kernel_rfl
  have hb : Tryz.f21.body = some (Tryz.f21.body.getD .skip) := by kernel_rfl
  exact calls_of_exec2' (P := Tryz.prog) (fn := Tryz.f21) (c := Tryz.f21.body.getD .skip) (args := [Value.agg
    #[Value.slice ap an ac, Value.slice dp dn dc],
  Value.string s, Value.agg (arrI IntKind.u8 a 16 0).toArray]) (w := w) (R := R) pur1_ok Tryz.func21 hb e h

end Go.Proofs.YtkkfnlehlkiejaaGreatDoor

/- Chapter 21: the contracts of the reference's less, Versions, Current; what is in force. Lists that are not too long. -/
namespace Go.Proofs.YtkkfnlehlkiejaaGreatDoor
open Go.RowKit Go.Maps

/-! ### Plain -/
def verF (ds : List DX) (s : ByteArray) : List DX := ds.filter fun y => decide (y.d.g = s)
theorem verF_snoc {L : List DX} {i : Nat} {y : DX} (h : L[i]? = some y) (s : ByteArray) : verF (L.take (i + 1)) s = verF (L.take i) s ++ (if y.d.g = s then [y] else []) := by
  unfold verF
  rw [take_snoc h, List.filter_append, List.filter_cons]
  by_cases hd : y.d.g = s
  · rw [if_pos (by simpa using hd), if_pos hd]; rfl
  · rw [if_neg (by simpa using hd), if_neg hd]; rfl
theorem ver_ins {out : List DX} {x : DX} {a : Nat} (hs : out.Pairwise fun x y => ¬ cfP y x < 0) (hi : ∀ (j : Nat) (y : DX), a ≤ j → out[j]? = some y → cfP x y < 0) (lo : ∀ y, 0 < a → out[a - 1]? = some y → ¬ cfP x y < 0) (ha : a ≤ out.length) :
    (out.take a ++ x :: out.drop a).Pairwise fun x y => ¬ cfP y x < 0 := by
  have hlow : ∀ y ∈ out.take a, ¬ cfP x y < 0 := fun y hy => by
    obtain ⟨j, hj⟩ := List.getElem?_of_mem hy
    rw [List.getElem?_take] at hj
    split at hj
    · rename_i hja
      have hlt : a - 1 < out.length := by omega
      have hz := lo out[a - 1] (by omega) (List.getElem?_eq_getElem hlt)
      rcases Nat.lt_or_ge j (a - 1) with h | h
      · have hjl : j < out.length := by omega
        rw [List.getElem?_eq_getElem hjl] at hj
        cases hj
        have h2 := List.pairwise_iff_getElem.1 hs j (a - 1) hjl hlt h
        intro h3
        have h4 := cfP_ord.anti out[a - 1] out[j]
        rcases Int.lt_or_eq_of_le (show cfP out[j] out[a - 1] ≤ 0 by omega) with h5 | h5
        · exact hz (cfP_ord.tlt _ _ _ h3 h5)
        · exact hz (cfP_ord.le _ _ _ h3 h5)
      · have : j = a - 1 := by omega
        subst this
        rw [List.getElem?_eq_getElem hlt] at hj
        cases hj
        exact hz
    · cases hj
  have hhi : ∀ y ∈ out.drop a, cfP x y < 0 := fun y hy => by
    obtain ⟨j, hj⟩ := List.getElem?_of_mem hy
    rw [List.getElem?_drop] at hj
    exact hi _ y (by omega) hj
  have hsp := hs
  rw [← List.take_append_drop a out, List.pairwise_append] at hsp
  rw [List.pairwise_append]
  refine ⟨hsp.1, List.pairwise_cons.2 ⟨fun y hy => ?_, hsp.2.1⟩, fun u hu v hv => ?_⟩
  · have h1 := hhi y hy
    have h2 := cfP_ord.anti x y
    omega
  · rcases List.mem_cons.1 hv with rfl | hv
    · exact hlow u hu
    · exact hsp.2.2 u hu v hv
theorem perm_uniq21 {α : Type} {R : α → α → Prop} : ∀ {l1 l2 : List α}, l1.Perm l2 → l1.Pairwise R → l2.Pairwise R → (∀ a ∈ l1, ∀ b ∈ l1, R a b → R b a → a = b) → l1 = l2
  | [], l2, hp, _, _, _ => (List.nil_perm.1 hp).symm
  | a :: r, [], hp, _, _, _ => by have := hp.length_eq; simp at this
  | a :: r, b :: s, hp, h1, h2, anti => by
    have hab : a = b := Classical.byContradiction fun hne => by
      have h3 : a ∈ s := by
        rcases List.mem_cons.1 (hp.subset List.mem_cons_self) with h | h
        · exact absurd h hne
        · exact h
      have h4 : b ∈ r := by
        rcases List.mem_cons.1 (hp.symm.subset List.mem_cons_self) with h | h
        · exact absurd h.symm hne
        · exact h
      exact hne (anti a List.mem_cons_self b (List.mem_cons_of_mem _ h4) ((List.pairwise_cons.1 h1).1 b h4) ((List.pairwise_cons.1 h2).1 a h3))
    subst hab
    rw [perm_uniq21 (List.Perm.cons_inv hp) (List.pairwise_cons.1 h1).2 (List.pairwise_cons.1 h2).2 fun x hx y hy => anti x (List.mem_cons_of_mem _ hx) y (List.mem_cons_of_mem _ hy)]
theorem u8_inj {x y : Int} (hx : 0 ≤ x ∧ x ≤ 255) (hy : 0 ≤ y ∧ y ≤ 255) (h : x.toNat.toUInt8 = y.toNat.toUInt8) : x = y := by
  have h1 : x.toNat.toUInt8.toNat = y.toNat.toUInt8.toNat := by rw [h]
  rw [UInt8.toNat_ofNat', UInt8.toNat_ofNat'] at h1
  omega
theorem idB_inj {f g : Nat → Int} (hf : BY f) (hg : BY g) (h : idB f = idB g) : idI f = idI g := by
  apply List.ext_getElem?
  intro j
  by_cases hj : j < 32
  · rw [idI_get f hj, idI_get g hj]
    have h1 := congrArg (fun z => z[j]?) h
    simp only [idB, List.getElem?_map, idI_get f hj, idI_get g hj, Option.map_some, Option.some.injEq] at h1
    rw [u8_inj (hf j) (hg j) h1]
  · rw [List.getElem?_eq_none (by simp [idI]; omega), List.getElem?_eq_none (by simp [idI]; omega)]
theorem cfd_zero {a b : Df} (ha : a.OK) (hb : b.OK) (h : cfd a b = 0) : idI a.id = idI b.id := by
  unfold cfd cfD at h
  split at h
  · exact absurd h (by assumption)
  unfold cfP at h
  split at h
  · exact absurd h (by assumption)
  exact idB_inj ha.id hb.id (cb_zero _ _ h)
theorem cfd_anti (a b : Df) : cfd a b = - cfd b a := cfD_ord.anti ⟨a, none, 0⟩ ⟨b, none, 0⟩
section
variable {l : List (List Int × DX)} {ds : List DX}
theorem pair_same {l : List (List Int × DX)} (h : l.Pairwise fun p q => p.1 ≠ q.1) {p q : List Int × DX} (hp : p ∈ l) (hq : q ∈ l) (he : p.1 = q.1) : p = q := by
  obtain ⟨i, hi, e1⟩ := List.getElem_of_mem hp
  obtain ⟨j, hj, e2⟩ := List.getElem_of_mem hq
  rcases Nat.lt_trichotomy i j with h1 | h1 | h1
  · have := List.pairwise_iff_getElem.1 h i j hi hj h1
    rw [e1, e2] at this
    exact absurd he this
  · subst h1; rw [← e1, ← e2]
  · have := List.pairwise_iff_getElem.1 h j i hj hi h1
    rw [e1, e2] at this
    exact absurd he.symm this
theorem DL.uniq (h : DL l ds) {a b : DX} (ha : a ∈ ds) (hb : b ∈ ds) (he : idI a.d.id = idI b.d.id) : a.d = b.d := by
  obtain ⟨i, hi⟩ := List.getElem?_of_mem ha
  obtain ⟨j, hj⟩ := List.getElem?_of_mem hb
  obtain ⟨x, h1, h2⟩ := h.at hi
  obtain ⟨y, h3, h4⟩ := h.at hj
  have := pair_same h.dis (List.mem_of_getElem? h1) (List.mem_of_getElem? h3) he
  have e : x = y := (Prod.mk.inj this).2
  rw [← h2, ← h4, e]
theorem DL.acc (h : DL l ds) (P : Df → Bool) : accL (fun x => P x.d) l = (ds.filter fun y => P y.d).map fun y => y.d := by
  have e1 : accL (fun x => P x.d) l = ((l.map (·.2)).map (fun x : DX => x.d)).filter P := by simp only [accL, List.filter_map, Function.comp_def]
  have e2 : (ds.filter fun y => P y.d).map (fun y => y.d) = (ds.map fun y => y.d).filter P := by rw [List.filter_map]; rfl
  rw [e1, e2, h.eq, List.map_map]; rfl
/-- What the program lists of a group is what the reference lists. -/
theorem DL.vers (h : DL l ds) (hok : ∀ y ∈ ds, y.d.OK) {s : ByteArray} {cs out : List DX} (hV : VerL l s cs) (hp : out.Perm (verF ds s)) (hs : out.Pairwise fun x y => ¬ cfP y x < 0) : cs.map (fun x => x.d) = out.map fun x => x.d := by
  have hacc := h.acc (fun d => decide (d.g = s))
  have hpc : (cs.map fun x => x.d).Perm ((verF ds s).map fun x => x.d) := by
    have := hV.1
    rw [hacc] at this
    exact this
  have hpo : (out.map fun x => x.d).Perm ((verF ds s).map fun x => x.d) := hp.map _
  have hgo : ∀ x ∈ out, x.d.g = s := fun x hx => by
    have := (List.mem_filter.1 (hp.subset hx)).2
    simpa using this
  refine perm_uniq21 (R := fun a b => ¬ cfd b a < 0) (hpc.trans hpo.symm) ?_ ?_ ?_
  · rw [List.pairwise_map]; exact hV.2
  · rw [List.pairwise_map]
    refine (List.pairwise_iff_getElem.2 fun i j hi hj hij => ?_)
    have h1 := List.pairwise_iff_getElem.1 hs i j hi hj hij
    have e1 := hgo out[i] (List.getElem_mem hi)
    have e2 := hgo out[j] (List.getElem_mem hj)
    show ¬ cfD out[j] out[i] < 0
    have e3 : cfG out[j] out[i] = 0 := by unfold cfG; rw [e1, e2]; exact cb_self _
    unfold cfD
    rw [if_neg (by rw [e3]; decide)]
    exact h1
  · intro a ha b hb h1 h2
    have ha := hpc.subset ha
    have hb := hpc.subset hb
    obtain ⟨x, hx, rfl⟩ := List.mem_map.1 ha
    obtain ⟨y, hy, rfl⟩ := List.mem_map.1 hb
    have hx := (List.mem_filter.1 hx).1
    have hy := (List.mem_filter.1 hy).1
    have h3 := cfd_anti x.d y.d
    exact h.uniq hx hy (cfd_zero (hok x hx) (hok y hy) (by omega))
end
/-- What is in force, of the definitions in the order in which they prevail. -/
def headD (L : List Df) : Option Df := match L with | d :: _ => if d.rm = true then none else some d | [] => none
theorem headC_d (cs : List DX) : (headC cs).map (fun x => x.d) = headD (cs.map fun x => x.d) := by
  cases cs with
  | nil => rfl
  | cons x r =>
    show (if x.d.rm = true then none else some x : Option DX).map _ = if x.d.rm = true then none else some x.d
    split <;> rfl
theorem headC_is (cs : List DX) : (headC cs).isSome = (headD (cs.map fun x => x.d)).isSome := by rw [← headC_d, Option.isSome_map]
theorem headC_get (cs : List DX) : ((headC cs).getD dxz).d = (headD (cs.map fun x => x.d)).getD dz := by
  rw [← headC_d]
  cases headC cs <;> rfl
theorem headC_mem {cs : List DX} {x : DX} (h : headC cs = some x) : x ∈ cs := by
  cases cs with
  | nil => cases h
  | cons y r =>
    have h : (if y.d.rm = true then none else some y) = some x := h
    split at h
    · cases h
    · cases h; simp

/-! ### The reference -/
theorem idB_bytes {w : World} {n : Nat} {f : Nat → Int} (hf : BY f) (h : AtL w n 0 (arrI .u8 f 32 0)) : (⟨(idB f).toArray⟩ : ByteArray).size = 32 ∧ BytesP w (some ⟨n, 0, none⟩) ⟨(idB f).toArray⟩ := by
  have hl : (idB f).length = 32 := by simp [idB, idI]
  refine ⟨by show (idB f).toArray.size = 32; simpa using hl, ⟨.inr ⟨n, 0, rfl, ?_⟩⟩⟩
  have : byteCells ⟨(idB f).toArray⟩ = arrI .u8 f 32 0 := by
    unfold byteCells
    show (idB f).map _ = _
    rw [arrI_idI, idB, List.map_map]
    refine List.map_congr_left fun x hx => ?_
    have := idI_bd hf x hx
    show Value.int .u8 ((x.toNat.toUInt8).toNat : Int) = .int .u8 x
    rw [UInt8.toNat_ofNat']
    congr 1
    omega
  rw [this]
  exact h.h
set_option maxRecDepth 100000 in
theorem xless_any (x y : DX) (w : World) (ox : x.d.OK) (oy : y.d.OK) :
    Calls Tryz.prog 58 #[dfV x, dfV y] w fun e w' => e = .returned (.bool (decide (cfP x y < 0))) ∧ K0 w w' := by
  refine vc_xless x.d.id x.d.au x.d.g x.d.v x.d.rm x.d.md x.p x.d.ms.length x.c x.d.tx y.d.id y.d.au y.d.g y.d.v y.d.rm y.d.md y.p y.d.ms.length y.c y.d.tx w _ (fun n1 n2 => bsp_intro (fun h => fun W hW => ?_) (fun h => fun W hW => ?_))
  · have h : x.d.v ≠ y.d.v := by simpa using h
    have e : decide (x.d.v > y.d.v) = decide (cfP x y < 0) := by
      unfold cfP cfV
      by_cases h1 : y.d.v < x.d.v
      · rw [if_pos h1]; simp [h1]
      · rw [if_neg h1, if_pos (show x.d.v < y.d.v by omega)]
        simp
        omega
    rw [e]
    exact ⟨rfl, hW.kk rfl⟩
  · have h : x.d.v = y.d.v := by simpa using h
    refine ⟨⟨(idB x.d.id).toArray⟩, idB_bytes ox.id (AtL_block (hW.cells 1 rfl) rfl), ⟨(idB y.d.id).toArray⟩, idB_bytes oy.id (AtL_block (hW.cells 0 rfl) rfl), ?_, hW.kk rfl⟩
    have e1 : ∀ l : List UInt8, (⟨l.toArray⟩ : ByteArray).toList = l := fun l => by rw [ByteArray.toList_eq]
    have e2 : cfP x y = Lib.compareBytes (idB x.d.id) (idB y.d.id) := by
      unfold cfP cfV
      rw [if_neg (by rw [h]; simp)]
    rw [e1, e1, bl_cb, e2]
theorem ins_flat21 (out : List DX) (y : DX) (a : Nat) : (out.flatMap dfC).take (a * 54) ++ dfC y ++ (out.flatMap dfC).drop (a * 54) = (out.take a ++ y :: out.drop a).flatMap dfC := by
  rw [take_flat dfC 54 out a (fun y _ => dfC_length y), drop_flat dfC 54 out a (fun y _ => dfC_length y)]
  simp
set_option maxRecDepth 100000 in
set_option maxHeartbeats 8000000 in
theorem xvers_any (A : List Au) (ap : Option Addr) (ac : Nat) (L : List DX) (p : Option Addr) (c : Nat) (s : ByteArray) (w : World) (hR : SR w L p c) (hl : L.length ≤ 1000000) :
    Calls Tryz.prog 34 #[.agg #[.slice ap A.length ac, .slice p L.length c], .string s] w fun e w' => (∃ (out : List DX) (q : Option Addr) (d : Nat), e = .returned (.slice q out.length d) ∧
      w'.ownsRow w.heap.size 50 54 (.slice q out.length d) out.length (out.flatMap dfC) ∧ out.Perm (verF L s) ∧ out.Pairwise fun x y => ¬ cfP y x < 0) ∧ K0 w w' := by
  refine vc_xvers ap A.length ac p L.length c s w _ (fun n1 W hW => ?_)
  have kW : K0 w W := hW.kk rfl
  have hw1 := block_lt (hW.cells 0 rfl)
  simp only at hw1
  have hRW := hR.k0 kW
  have one : ∀ (l : List DX) (u : Value), u ∈ l.flatMap dfC → u.oneCell' = true := fun l u hu => by obtain ⟨z, _, hz⟩ := List.mem_flatMap.1 hu; exact dfC_one z u hz
  refine ⟨fun vs w' => ∃ (i : Nat) (out : List DX) (q : Option Addr) (d : Nat), vs = [.int .i64 (i : Int), .slice q out.length d] ∧ i ≤ L.length ∧ out.Perm (verF (L.take i) s) ∧ (out.Pairwise fun x y => ¬ cfP y x < 0) ∧ out.length ≤ i ∧
      w'.ownsRow W.heap.size 50 54 (.slice q out.length d) out.length (out.flatMap dfC) ∧ K0 W w',
    fun vs _ => (match vs with | .int _ a :: _ => L.length - a.toNat | _ => 0), ⟨0, [], none, 0, rfl, by omega, .refl _, .nil, by simp, World.ownsRow_nil _ _ _ _, .refl _ _⟩, ?_⟩
  rintro x p0 m0 d0 w2 ⟨i, out, q, d, hv, hi, hperm, hpw, hoi, ho2, k2⟩ hL2
  simp only [List.cons.injEq, Value.int.injEq, Value.slice.injEq, true_and, and_true] at hv
  obtain ⟨rfl, rfl, rfl, rfl⟩ := hv
  have hb1 : w2.heap[n1]? = some (.cells #[.slice ap A.length ac, .slice p L.length c] 33 (0, 0)) := hL2.cells 0 rfl
  refine bsp_intro (fun hlt => ?_) (fun hge => ?_)
  rotate_left
  · have hi : i = L.length := by simp at hge; omega
    rw [hi, List.take_length] at hperm
    exact ⟨⟨out, p0, d0, rfl, own_base ho2 kW.size, hperm, hpw⟩, kW.trans k2⟩
  have hlt : i < L.length := by simp at hlt; omega
  obtain ⟨y, b, o, hy, hp, hat⟩ := (hRW.k0 k2).row.get hlt
  have hcg : w2.cell? ⟨b, o + i * 54 + 48, none⟩ = some (.string y.d.g) := hat.cell (j := 48) rfl
  have oy := (hR.ok y (List.mem_of_getElem? hy)).2.2
  refine nn_is hp ⟨⟨by omega, by omega⟩, y.d.g, by rw [Int.toNat_natCast]; exact hcg, bsp_intro (fun h => ?_) (fun h => ?_)⟩
  · rw [str_beq] at h
    have h : ¬ y.d.g = s := by simpa using h
    refine ⟨⟨i + 1, out, p0, d0, by rw [inc64 (by omega)], by omega, ?_, hpw, by omega, ho2, k2⟩, by rw [inc64 (by omega)]; simp only [Int.toNat_natCast]; omega⟩
    rw [verF_snoc hy, if_neg h, List.append_nil]; exact hperm
  rw [str_beq] at h
  have hgs : y.d.g = s := by simpa using h
  have hok : ∀ z ∈ out, z.d.OK := fun z hz => by
    have h1 := (List.mem_filter.1 (hperm.subset hz)).1
    exact (hR.ok z (List.mem_of_mem_take h1)).2.2
  have hle := own_le ho2
  refine ⟨fun vs w' => ∃ a : Nat, vs = [.int .i64 (a : Int)] ∧ a ≤ out.length ∧ (∀ (j : Nat) (z : DX), a ≤ j → out[j]? = some z → cfP y z < 0) ∧ K0 w2 w',
    fun vs _ => (match vs with | .int _ a :: _ => a.toNat | _ => 0), ⟨out.length, rfl, Nat.le_refl _, (fun j z h1 h2 => by have := (List.getElem?_eq_some_iff.1 h2).1; omega), .refl _ _⟩, ?_⟩
  rintro x2 w3 ⟨a, hv, ha, hhi, k3⟩ hL3
  simp only [List.cons.injEq, Value.int.injEq, true_and, and_true] at hv
  subst hv
  have ho3 := owns_kp ho2 k3 (fun _ _ h => h)
  have k03 := k2.trans k3
  have hRy : ∀ wx : World, K0 W wx → AtL wx b (o + i * 54) (dfC y) := fun wx k => by
    obtain ⟨b', o', hp', h'⟩ := (hRW.k0 k).row i y hy
    rw [hp] at hp'
    cases hp'
    exact h'
  simp only [Int.toNat_natCast, Nat.zero_add]
  rcases Nat.eq_zero_or_pos a with h0 | h0
  have hlo : ∀ z, 0 < a → out[a - 1]? = some z → ¬ cfP y z < 0 := fun z h => by omega
  rw [show decide ((a : Int) > 0) = false by rw [h0]; rfl]
  refine ⟨none, 0, 0, gimp_intro (fun h => by cases h), nn_off (fun b8 o8 => ⟨gimp_intro (fun h => by cases h), fun _ => 0, fun _ => 0, ⟨#[]⟩, 0, false, false, none, 0, 0, ⟨#[]⟩, gimp_intro (fun h => by cases h), nn_off (fun b9 o9 => ⟨gimp_intro (fun h => by cases h), fun _ => 0, fun _ => 0, ⟨#[]⟩, 0, false, false, none, 0, 0, ⟨#[]⟩, gimp_intro (fun h => by cases h), fun Wz hWz => bsp_intro (fun h => by cases h) (fun _ => ⟨.refl _ _, ?_⟩)⟩)⟩)⟩
  have kz : K0 w2 Wz := k3.trans (hWz.kk rfl)
  have hoz := owns_kp ho3 (hWz.kk rfl : K0 w3 Wz) (fun _ _ h => h)
  clear hWz b8 o8 b9 o9 ho3 hL3 k03 k3 h0
  rotate_left
  have ha1 : a - 1 < out.length := by omega
  obtain ⟨z, hz⟩ : ∃ z, out[a - 1]? = some z := ⟨_, List.getElem?_eq_getElem ha1⟩
  have eA : IntKind.i64.wrap ((a : Int) - 1) = ((a - 1 : Nat) : Int) := by rw [wr64 (by omega) (by omega)]; omega
  obtain ⟨g, hg, hatz⟩ := own_at dfC ho3 (fun y _ => dfC_length y) (by decide) hz
  rw [Nat.zero_add] at hatz
  rw [eA]
  refine ⟨p, L.length, c, gimp_intro fun _ W4 hW4 => cell_at (hW4.cells 0 rfl) rfl, nn_is hp ⟨gimp_intro fun _ => ⟨by omega, by omega⟩, y.d.id, y.d.au, y.d.g, y.d.v, y.d.rm, y.d.md, y.p, y.d.ms.length, y.c, y.d.tx, gimp_intro fun _ W4 hW4 => hRy W4 (k03.trans (hW4.kk rfl)), nn_is hg ⟨gimp_intro fun _ => ⟨by omega, by omega⟩, z.d.id, z.d.au, z.d.g, z.d.v, z.d.rm, z.d.md, z.p, z.d.ms.length, z.c, z.d.tx, gimp_intro fun _ W4 hW4 => (by rw [Int.toNat_natCast, Nat.zero_add]; exact hatz.k0 (hW4.kk rfl)), fun W4 hW4 => bsp_intro (fun _ => ?_) (fun h => by simp at h; omega)⟩⟩⟩
  have k4 : K0 w3 W4 := hW4.kk rfl
  refine ⟨(xless_any y z W4 oy (hok z (List.mem_of_getElem? hz))).mono fun e Wz ⟨he, kl⟩ => ⟨_, he, .of_k0 kl, bsp_intro (fun h => ?_) (fun h => ?_)⟩⟩
  · have hzy : cfP y z < 0 := by simpa using h
    refine ⟨⟨a - 1, rfl, by omega, fun j u hj hu => ?_, k3.trans (k4.trans kl)⟩, by simp only [Int.toNat_natCast]; omega⟩
    by_cases e : j = a - 1
    · subst e; rw [hz] at hu; cases hu; exact hzy
    · exact hhi j u (by omega) hu
  have hlo : ∀ u, 0 < a → out[a - 1]? = some u → ¬ cfP y u < 0 := fun u _ hu => by
    rw [hz] at hu
    cases hu
    simpa using h
  have kz : K0 w2 Wz := k3.trans (k4.trans kl)
  have hoz := owns_kp ho3 (k4.trans kl) (fun _ _ h => h)
  clear h0 h hz hatz hg hW4 ho3 hL3 k03 k3 k4 kl he
  rotate_left
  all_goals
    intro n5
    refine ⟨⟨by omega, by omega⟩, fun W4 hW4 => ?_⟩
    have k4 : K0 Wz W4 := hW4.kk rfl
    have g4 : Wz.heap.size ≤ n5 := hW4.fresh 1 rfl rfl
    have hn1 : n1 < Wz.heap.size := Nat.lt_of_lt_of_le hw1 (k2.trans kz).size
    have ho4 := owns_kp hoz k4 (fun _ _ h => h)
    have hlen := ho4.1
    refine ⟨Wz.heap.size, [], (out.flatMap dfC).take (a * 54), own_none g4 (hW4.cells 1 rfl), by rw [List.length_take, hlen]; exact Nat.min_eq_left (Nat.mul_le_mul_right _ ha), src_take ho4 (one out) _, by omega, by omega, k4.size, fun p5 c5 w5 ho5 hg5 _ => ?_⟩
    rw [List.nil_append] at ho5
    have k5 : K0 Wz w5 := k4.fresh (kp_grown hg5) (fun j hj e => by have := own_n e; omega)
    have hoo : ∀ k, (Value.slice p0 out.length d0).ownBlock = some k → k < Wz.heap.size := fun k e => own_lt hoz e
    have ho5' := owns_kp ho4 (kp_grown hg5) (fun k hk e => by have := own_n e; have := hoo k hk; omega)
    refine ⟨⟨(kp_grown hg5).size, fun z hz hlt => (kp_grown hg5).block z hlt (fun e => by have := own_n e; simp at hz; omega)⟩, nn_is hp ⟨⟨by omega, by omega⟩, y.d.id, y.d.au, y.d.g, y.d.v, y.d.rm, y.d.md, y.p, y.d.ms.length, y.c, y.d.tx, hRy w5 ((k2.trans kz).trans k5), fun n6 W6 hW6 => ?_⟩⟩
    have k6 : K0 w5 W6 := hW6.kk rfl
    have ho6 := owns_kp ho5 k6 (fun _ _ h => h)
    refine ⟨Wz.heap.size, _, ho6, by omega, by omega, (k5.trans k6).size, fun p7 c7 w7 ho7 hg7 _ => ?_⟩
    have ho7 : w7.ownsRow Wz.heap.size 50 54 (.slice p7 (a + 1) c7) (a + 1) ((out.flatMap dfC).take (a * 54) ++ dfC y) := ho7
    have k7 : K0 Wz w7 := (k5.trans k6).fresh (kp_grown hg7) (fun j hj e => by have := own_ge ho6 e; omega)
    have ho7' := owns_kp (owns_kp ho5' k6 (fun _ _ h => h)) (kp_grown hg7) (fun k hk e => by have := own_ge ho6 e; have := hoo k hk; omega)
    refine ⟨⟨(kp_grown hg7).size, fun z hz hlt => (kp_grown hg7).block z hlt (fun e => by have := own_ge ho6 e; simp at hz; omega)⟩, ⟨by omega, by omega⟩, Wz.heap.size, _, (out.flatMap dfC).drop (a * 54), ho7, by rw [List.length_drop, hlen, Nat.sub_mul], src_drop ho7' (one out) ha, by omega, by omega, k7.size, fun p8 c8 w8 ho8 hg8 _ => ?_⟩
    have k8 : K0 Wz w8 := k7.fresh (kp_grown hg8) (fun j hj e => by have := own_ge ho7 e; omega)
    have em : (out.take a ++ y :: out.drop a).length = a + 1 + (out.length - a) := by rw [List.length_append, List.length_take, List.length_cons, List.length_drop]; omega
    rw [ins_flat21, ← em] at ho8
    rw [← em]
    refine ⟨⟨(kp_grown hg8).size, fun z hz hlt => (kp_grown hg8).block z hlt (fun e => by have := own_ge ho7 e; simp at hz; omega)⟩, ⟨i + 1, out.take a ++ y :: out.drop a, p8, c8, by rw [inc64 (by omega)], hlt, ?_, ver_ins hpw hhi hlo ha, by omega, own_base ho8 (k2.trans kz).size, (k2.trans kz).trans k8⟩, by rw [inc64 (by omega)]; simp only [Int.toNat_natCast]; omega⟩
    rw [verF_snoc hy, if_pos hgs]
    refine List.Perm.trans ?_ (hperm.append_right [y])
    refine (List.perm_middle).trans ?_
    rw [List.take_append_drop]
    exact (List.perm_append_singleton y out).symm
set_option maxRecDepth 100000 in
set_option maxHeartbeats 4000000 in
theorem xcur_any (A : List Au) (ap : Option Addr) (ac : Nat) (L : List DX) (p : Option Addr) (c : Nat) (s : ByteArray) (w : World) (hR : SR w L p c) (hl : L.length ≤ 1000000) :
    Calls Tryz.prog 30 #[.agg #[.slice ap A.length ac, .slice p L.length c], .string s] w fun e w' => (∃ out : List DX, out.Perm (verF L s) ∧ (out.Pairwise fun x y => ¬ cfP y x < 0) ∧ e = .returned (.tuple #[dfV ((headC out).getD dxz), .bool (headC out).isSome])) ∧ K0 w w' := by
  refine vc_xcur ap A.length ac p L.length c s w _ (fun n1 n2 W hW => ?_)
  have kW : K0 w W := hW.kk rfl
  refine ⟨(xvers_any A ap ac L p c s W (hR.k0 kW) hl).mono fun e w1 ⟨⟨out, q, d, he, ho, hp, hs⟩, k1⟩ => ⟨_, _, _, he, .of_k0 k1, ?_⟩⟩
  have k01 := kW.trans k1
  cases out with
  | nil =>
    refine nn_off (fun b o => ⟨gimp_intro (fun h => by cases h), false, gimp_intro (fun h => by cases h), bsp_intro (fun _ => fun W2 hW2 => ⟨⟨[], hp, hs, rfl⟩, hW2.k0 k01⟩) (fun h => by cases h)⟩)
  | cons x r =>
    obtain ⟨g, hg, hat⟩ := own_at dfC ho (k := 0) (y := x) (fun y _ => dfC_length y) (by decide) rfl
    have hc : w1.cell? ⟨g, 0 + 50, none⟩ = some (.bool x.d.rm) := by have := hat.cell (j := 50) (v := .bool x.d.rm) rfl; simpa using this
    have hat0 : AtL w1 g 0 (dfC x) := by simpa using hat
    have e0 : ((((x :: r).length : Nat) : Int) == 0) = false := by
      rw [beq_eq_false_iff_ne]
      rw [List.length_cons]; omega
    refine nn_is hg ⟨gimp_intro fun _ => ⟨by omega, by rw [List.length_cons]; omega⟩, x.d.rm, gimp_intro fun _ => hc, bsp_intro (fun h => fun W2 hW2 => ?_) (fun h => ?_)⟩
    · have hb : x.d.rm = true := by rw [e0] at h; simpa using h
      have hh : headC (x :: r) = none := if_pos hb
      exact ⟨⟨x :: r, hp, hs, by rw [hh]; rfl⟩, hW2.k0 k01⟩
    · have hb : ¬ x.d.rm = true := by rw [e0] at h; simpa using h
      have hh : headC (x :: r) = some x := if_neg hb
      refine nn_is hg ⟨⟨by omega, by rw [List.length_cons]; omega⟩, x.d.id, x.d.au, x.d.g, x.d.v, x.d.rm, x.d.md, x.p, x.d.ms.length, x.c, x.d.tx, hat0, fun W2 hW2 => ⟨⟨x :: r, hp, hs, by rw [hh]; rfl⟩, hW2.k0 k01⟩⟩

end Go.Proofs.YtkkfnlehlkiejaaGreatDoor

/- The formulas of functions by the symbolic evaluator, and that each gives the call's contract. Written by a program (gen.py). No condition. -/
namespace Go.Proofs.YtkkfnlehlkiejaaGreatDoor
set_option maxRecDepth 100000
set_option linter.unusedVariables false

def VC_rclone (x : Option Addr) (w : World) (R : Ending → World → Prop) : Prop :=
 bsp x.isNone (R (Ending.returned (Value.pointer none)) w)
 (∀ (W : World),
 Loc w.heap.size [] w W →
 ∃ (S : World → Prop),
 S W ∧
 nn true x fun (b o : Nat) =>
 ∃ (p : Option Addr),
 ∃ (n : Nat),
 ∃ (c : Nat),
 (∀ (w' : World), S w' → w'.cell? (Addr.mk b o none) = some (Value.slice p n c)) ∧
 nn true x fun (b o : Nat) =>
 ∃ (p_1 : Option Addr),
 ∃ (n_1 : Nat),
 ∃ (c_1 : Nat),
 (∀ (w' : World), S w' → w'.cell? (Addr.mk b (o + 1) none) = some (Value.slice p_1 n_1 c_1)) ∧
 (CallsS Tryz.prog 44 #[Value.slice p n c] W fun (e : Ending) (w' : World) =>
 ∃ (p : Option Addr),
 ∃ (n : Nat),
 ∃ (c : Nat),
 e = Ending.returned (Value.slice p n c) ∧
 S w' ∧
 (CallsS Tryz.prog 65 #[Value.slice p_1 n_1 c_1] w' fun (e : Ending) (w' : World) =>
 ∃ (p_2 : Option Addr),
 ∃ (n_2 : Nat),
 ∃ (c_2 : Nat),
 e = Ending.returned (Value.slice p_2 n_2 c_2) ∧
 ∀ (n_3 : Nat) (w1 : World),
 NewB w' (Obj.map #[] 0) n_3 w1 →
 S w1 ∧
 ∀ (n_4 : Nat) (w1_1 : World),
 NewB w1
 (Obj.cells #[Value.slice p n c, Value.slice p_2 n_2 c_2, Value.map (some n_3)] 99) n_4
 w1_1 →
 KeptL [] W w1_1 ∧
 nn true x fun (b o : Nat) =>
 ∃ (x : Option Nat),
 w1_1.cell? (Addr.mk b (o + 2) none) = some (Value.map x) ∧
 ∃ (n : Nat),
 ∃ (w1 : World),
 RngP Tryz.prog 96 (Value.map x) n w1_1 w1 ∧
 KeptL [] w1_1 w1 ∧
 ∃ (I : List Value → World → Prop),
 ∃ (m : List Value → World → Nat),
 I [] w1 ∧
 ∀ (w' : World),
 I [] w' →
 ∃ (b : Bool),
 ∃ (r : List Value),
 ∃ (w1 : World),
 NxtP Tryz.prog (Value.pointer (some (Addr.mk n 0 none))) b r w' w1 ∧
 KeptL [] w' w1 ∧
 bsp b
 (∃ (f : Nat → Int),
 ∃ (f_1 : Nat → Int),
 ∃ (f_2 : Nat → Int),
 ∃ (x : ByteArray),
 ∃ (x_1 : Int),
 ∃ (x_2 : Bool),
 ∃ (x_3 : Bool),
 ∃ (p : Option Addr),
 ∃ (n_5 : Nat),
 ∃ (c : Nat),
 ∃ (x_4 : ByteArray),
 EntP Tryz.prog (Value.pointer (some (Addr.mk n 0 none)))
 (Value.tuple
 #[Value.agg
 (arrI IntKind.u8 f 32 0).toArray,
 Value.agg
 (arrI IntKind.u8 f_1 32 0 ++ (arrI IntKind.u8 f_2 16 0 ++ [Value.string x,
 Value.int IntKind.i64 x_1, Value.bool x_2,
 Value.bool x_3, Value.slice p n_5 c,
 Value.string x_4])).toArray])
 w1 ∧
 ∀ (n n_6 : Nat) (W : World),
 Loc w.heap.size
 [Blk.mk n_6 56
 (arrI IntKind.u8 f_1 32 0 ++ (arrI IntKind.u8 f_2 16 0 ++ [Value.string x,
 Value.int IntKind.i64 x_1, Value.bool x_2,
 Value.bool x_3, Value.slice p n_5 c,
 Value.string x_4]))
 (wrM 2),
 Blk.mk n 52
 (arrI IntKind.u8 f 32 0)
 (wrM 2)]
 w1 W →
 ∃ (S : World → Prop),
 S W ∧
 ∃ (x : Option Nat),
 (∀ (w' : World),
 S w' →
 w'.cell? (Addr.mk n_4 (0 + 2) none) =
 some (Value.map x)) ∧
 ∃ (f : Nat → Int),
 (∀ (w' : World),
 S w' →
 AtL w' n 0
 (arrI IntKind.u8 f 32 0)) ∧
 ∃ (f_3 : Nat → Int),
 ∃ (f_4 : Nat → Int),
 ∃ (x_5 : ByteArray),
 ∃ (x_6 : Int),
 ∃ (x_7 : Bool),
 ∃ (x_8 : Bool),
 ∃ (p : Option Addr),
 ∃ (n_7 : Nat),
 ∃ (c : Nat),
 ∃ (x_9 : ByteArray),
 (∀ (w' : World),
 S w' →
 AtL w' n_6 0
 (arrI IntKind.u8 f_3 32 0 ++ (arrI IntKind.u8 f_4 16 0 ++ [Value.string x_5,
 Value.int IntKind.i64 x_6,
 Value.bool x_7, Value.bool x_8,
 Value.slice p n_7 c,
 Value.string x_9]))) ∧
 CallsS Tryz.prog 53
 #[Value.agg
 (arrI IntKind.u8 f_3 32 0 ++ (arrI IntKind.u8 f_4 16 0 ++ [Value.string x_5,
 Value.int IntKind.i64 x_6,
 Value.bool x_7, Value.bool x_8,
 Value.slice p n_7 c,
 Value.string x_9])).toArray]
 W fun (e : Ending) (w'_1 : World) =>
 ∃ (f_5 : Nat → Int),
 ∃ (f_6 : Nat → Int),
 ∃ (x_10 : ByteArray),
 ∃ (x_11 : Int),
 ∃ (x_12 : Bool),
 ∃ (x_13 : Bool),
 ∃ (p : Option Addr),
 ∃ (n_8 : Nat),
 ∃ (c : Nat),
 ∃ (x_14 : ByteArray),
 e =
 Ending.returned
 (Value.agg
 (arrI IntKind.u8 f_5 32 0 ++ (arrI IntKind.u8 f_6 16 0 ++ [Value.string x_10,
 Value.int IntKind.i64
 x_11,
 Value.bool x_12,
 Value.bool x_13,
 Value.slice p n_8 c,
 Value.string x_14])).toArray) ∧
 S w'_1 ∧
 ∃ (w1 : World),
 UpdP Tryz.prog 96
 (Value.map x)
 (Value.agg
 (arrI IntKind.u8 f 32 0).toArray)
 (Value.agg
 (arrI IntKind.u8 f_5 32 0 ++ (arrI IntKind.u8 f_6 16 0 ++ [Value.string x_10,
 Value.int
 IntKind.i64 x_11,
 Value.bool x_12,
 Value.bool x_13,
 Value.slice p n_8
 c,
 Value.string x_14])).toArray)
 w'_1 w1 ∧
 KeptL [n_6, n] W w1 ∧
 I [] w1 ∧
 m [] w1 < m [] w')
 (R (Ending.returned (Value.pointer (some (Addr.mk n_4 0 none))))
 w1)) ∧
 ∀ (n_2 : Nat) (w1 : World),
 NewB w' (Obj.map #[] 0) n_2 w1 →
 S w1 ∧
 CallsS Tryz.prog 65 #[Value.slice p_1 n_1 c_1] w1 fun (e : Ending) (w' : World) =>
 ∃ (p_2 : Option Addr),
 ∃ (n_3 : Nat),
 ∃ (c_2 : Nat),
 e = Ending.returned (Value.slice p_2 n_3 c_2) ∧
 ∀ (n_4 : Nat) (w1 : World),
 NewB w'
 (Obj.cells #[Value.slice p n c, Value.slice p_2 n_3 c_2, Value.map (some n_2)] 99) n_4
 w1 →
 KeptL [] W w1 ∧
 nn true x fun (b o : Nat) =>
 ∃ (x : Option Nat),
 w1.cell? (Addr.mk b (o + 2) none) = some (Value.map x) ∧
 ∃ (n : Nat),
 ∃ (w1_1 : World),
 RngP Tryz.prog 96 (Value.map x) n w1 w1_1 ∧
 KeptL [] w1 w1_1 ∧
 ∃ (I : List Value → World → Prop),
 ∃ (m : List Value → World → Nat),
 I [] w1_1 ∧
 ∀ (w' : World),
 I [] w' →
 ∃ (b : Bool),
 ∃ (r : List Value),
 ∃ (w1 : World),
 NxtP Tryz.prog (Value.pointer (some (Addr.mk n 0 none))) b r w' w1 ∧
 KeptL [] w' w1 ∧
 bsp b
 (∃ (f : Nat → Int),
 ∃ (f_1 : Nat → Int),
 ∃ (f_2 : Nat → Int),
 ∃ (x : ByteArray),
 ∃ (x_1 : Int),
 ∃ (x_2 : Bool),
 ∃ (x_3 : Bool),
 ∃ (p : Option Addr),
 ∃ (n_5 : Nat),
 ∃ (c : Nat),
 ∃ (x_4 : ByteArray),
 EntP Tryz.prog (Value.pointer (some (Addr.mk n 0 none)))
 (Value.tuple
 #[Value.agg
 (arrI IntKind.u8 f 32 0).toArray,
 Value.agg
 (arrI IntKind.u8 f_1 32 0 ++ (arrI IntKind.u8 f_2 16 0 ++ [Value.string x,
 Value.int IntKind.i64 x_1, Value.bool x_2,
 Value.bool x_3, Value.slice p n_5 c,
 Value.string x_4])).toArray])
 w1 ∧
 ∀ (n n_6 : Nat) (W : World),
 Loc w.heap.size
 [Blk.mk n_6 56
 (arrI IntKind.u8 f_1 32 0 ++ (arrI IntKind.u8 f_2 16 0 ++ [Value.string x,
 Value.int IntKind.i64 x_1, Value.bool x_2,
 Value.bool x_3, Value.slice p n_5 c,
 Value.string x_4]))
 (wrM 2),
 Blk.mk n 52
 (arrI IntKind.u8 f 32 0)
 (wrM 2)]
 w1 W →
 ∃ (S : World → Prop),
 S W ∧
 ∃ (x : Option Nat),
 (∀ (w' : World),
 S w' →
 w'.cell? (Addr.mk n_4 (0 + 2) none) =
 some (Value.map x)) ∧
 ∃ (f : Nat → Int),
 (∀ (w' : World),
 S w' →
 AtL w' n 0
 (arrI IntKind.u8 f 32 0)) ∧
 ∃ (f_3 : Nat → Int),
 ∃ (f_4 : Nat → Int),
 ∃ (x_5 : ByteArray),
 ∃ (x_6 : Int),
 ∃ (x_7 : Bool),
 ∃ (x_8 : Bool),
 ∃ (p : Option Addr),
 ∃ (n_7 : Nat),
 ∃ (c : Nat),
 ∃ (x_9 : ByteArray),
 (∀ (w' : World),
 S w' →
 AtL w' n_6 0
 (arrI IntKind.u8 f_3 32 0 ++ (arrI IntKind.u8 f_4 16 0 ++ [Value.string x_5,
 Value.int IntKind.i64 x_6,
 Value.bool x_7, Value.bool x_8,
 Value.slice p n_7 c,
 Value.string x_9]))) ∧
 CallsS Tryz.prog 53
 #[Value.agg
 (arrI IntKind.u8 f_3 32 0 ++ (arrI IntKind.u8 f_4 16 0 ++ [Value.string x_5,
 Value.int IntKind.i64 x_6,
 Value.bool x_7, Value.bool x_8,
 Value.slice p n_7 c,
 Value.string x_9])).toArray]
 W fun (e : Ending) (w'_1 : World) =>
 ∃ (f_5 : Nat → Int),
 ∃ (f_6 : Nat → Int),
 ∃ (x_10 : ByteArray),
 ∃ (x_11 : Int),
 ∃ (x_12 : Bool),
 ∃ (x_13 : Bool),
 ∃ (p : Option Addr),
 ∃ (n_8 : Nat),
 ∃ (c : Nat),
 ∃ (x_14 : ByteArray),
 e =
 Ending.returned
 (Value.agg
 (arrI IntKind.u8 f_5 32 0 ++ (arrI IntKind.u8 f_6 16 0 ++ [Value.string x_10,
 Value.int IntKind.i64
 x_11,
 Value.bool x_12,
 Value.bool x_13,
 Value.slice p n_8 c,
 Value.string x_14])).toArray) ∧
 S w'_1 ∧
 ∃ (w1 : World),
 UpdP Tryz.prog 96
 (Value.map x)
 (Value.agg
 (arrI IntKind.u8 f 32 0).toArray)
 (Value.agg
 (arrI IntKind.u8 f_5 32 0 ++ (arrI IntKind.u8 f_6 16 0 ++ [Value.string x_10,
 Value.int
 IntKind.i64 x_11,
 Value.bool x_12,
 Value.bool x_13,
 Value.slice p n_8
 c,
 Value.string x_14])).toArray)
 w'_1 w1 ∧
 KeptL [n_6, n] W w1 ∧
 I [] w1 ∧
 m [] w1 < m [] w')
 (R (Ending.returned (Value.pointer (some (Addr.mk n_4 0 none))))
 w1)) ∧
 ∀ (n_2 : Nat) (w1 : World),
 NewB W (Obj.map #[] 0) n_2 w1 →
 S w1 ∧
 CallsS Tryz.prog 44 #[Value.slice p n c] w1 fun (e : Ending) (w' : World) =>
 ∃ (p : Option Addr),
 ∃ (n : Nat),
 ∃ (c : Nat),
 e = Ending.returned (Value.slice p n c) ∧
 S w' ∧
 CallsS Tryz.prog 65 #[Value.slice p_1 n_1 c_1] w' fun (e : Ending) (w' : World) =>
 ∃ (p_2 : Option Addr),
 ∃ (n_3 : Nat),
 ∃ (c_2 : Nat),
 e = Ending.returned (Value.slice p_2 n_3 c_2) ∧
 ∀ (n_4 : Nat) (w1 : World),
 NewB w'
 (Obj.cells #[Value.slice p n c, Value.slice p_2 n_3 c_2, Value.map (some n_2)] 99) n_4
 w1 →
 KeptL [] W w1 ∧
 nn true x fun (b o : Nat) =>
 ∃ (x : Option Nat),
 w1.cell? (Addr.mk b (o + 2) none) = some (Value.map x) ∧
 ∃ (n : Nat),
 ∃ (w1_1 : World),
 RngP Tryz.prog 96 (Value.map x) n w1 w1_1 ∧
 KeptL [] w1 w1_1 ∧
 ∃ (I : List Value → World → Prop),
 ∃ (m : List Value → World → Nat),
 I [] w1_1 ∧
 ∀ (w' : World),
 I [] w' →
 ∃ (b : Bool),
 ∃ (r : List Value),
 ∃ (w1 : World),
 NxtP Tryz.prog (Value.pointer (some (Addr.mk n 0 none))) b r w' w1 ∧
 KeptL [] w' w1 ∧
 bsp b
 (∃ (f : Nat → Int),
 ∃ (f_1 : Nat → Int),
 ∃ (f_2 : Nat → Int),
 ∃ (x : ByteArray),
 ∃ (x_1 : Int),
 ∃ (x_2 : Bool),
 ∃ (x_3 : Bool),
 ∃ (p : Option Addr),
 ∃ (n_5 : Nat),
 ∃ (c : Nat),
 ∃ (x_4 : ByteArray),
 EntP Tryz.prog (Value.pointer (some (Addr.mk n 0 none)))
 (Value.tuple
 #[Value.agg
 (arrI IntKind.u8 f 32 0).toArray,
 Value.agg
 (arrI IntKind.u8 f_1 32 0 ++ (arrI IntKind.u8 f_2 16 0 ++ [Value.string x,
 Value.int IntKind.i64 x_1, Value.bool x_2,
 Value.bool x_3, Value.slice p n_5 c,
 Value.string x_4])).toArray])
 w1 ∧
 ∀ (n n_6 : Nat) (W : World),
 Loc w.heap.size
 [Blk.mk n_6 56
 (arrI IntKind.u8 f_1 32 0 ++ (arrI IntKind.u8 f_2 16 0 ++ [Value.string x,
 Value.int IntKind.i64 x_1, Value.bool x_2,
 Value.bool x_3, Value.slice p n_5 c,
 Value.string x_4]))
 (wrM 2),
 Blk.mk n 52
 (arrI IntKind.u8 f 32 0)
 (wrM 2)]
 w1 W →
 ∃ (S : World → Prop),
 S W ∧
 ∃ (x : Option Nat),
 (∀ (w' : World),
 S w' →
 w'.cell? (Addr.mk n_4 (0 + 2) none) =
 some (Value.map x)) ∧
 ∃ (f : Nat → Int),
 (∀ (w' : World),
 S w' →
 AtL w' n 0
 (arrI IntKind.u8 f 32 0)) ∧
 ∃ (f_3 : Nat → Int),
 ∃ (f_4 : Nat → Int),
 ∃ (x_5 : ByteArray),
 ∃ (x_6 : Int),
 ∃ (x_7 : Bool),
 ∃ (x_8 : Bool),
 ∃ (p : Option Addr),
 ∃ (n_7 : Nat),
 ∃ (c : Nat),
 ∃ (x_9 : ByteArray),
 (∀ (w' : World),
 S w' →
 AtL w' n_6 0
 (arrI IntKind.u8 f_3 32 0 ++ (arrI IntKind.u8 f_4 16 0 ++ [Value.string x_5,
 Value.int IntKind.i64 x_6,
 Value.bool x_7, Value.bool x_8,
 Value.slice p n_7 c,
 Value.string x_9]))) ∧
 CallsS Tryz.prog 53
 #[Value.agg
 (arrI IntKind.u8 f_3 32 0 ++ (arrI IntKind.u8 f_4 16 0 ++ [Value.string x_5,
 Value.int IntKind.i64 x_6,
 Value.bool x_7, Value.bool x_8,
 Value.slice p n_7 c,
 Value.string x_9])).toArray]
 W fun (e : Ending) (w'_1 : World) =>
 ∃ (f_5 : Nat → Int),
 ∃ (f_6 : Nat → Int),
 ∃ (x_10 : ByteArray),
 ∃ (x_11 : Int),
 ∃ (x_12 : Bool),
 ∃ (x_13 : Bool),
 ∃ (p : Option Addr),
 ∃ (n_8 : Nat),
 ∃ (c : Nat),
 ∃ (x_14 : ByteArray),
 e =
 Ending.returned
 (Value.agg
 (arrI IntKind.u8 f_5 32 0 ++ (arrI IntKind.u8 f_6 16 0 ++ [Value.string x_10,
 Value.int IntKind.i64
 x_11,
 Value.bool x_12,
 Value.bool x_13,
 Value.slice p n_8 c,
 Value.string x_14])).toArray) ∧
 S w'_1 ∧
 ∃ (w1 : World),
 UpdP Tryz.prog 96
 (Value.map x)
 (Value.agg
 (arrI IntKind.u8 f 32 0).toArray)
 (Value.agg
 (arrI IntKind.u8 f_5 32 0 ++ (arrI IntKind.u8 f_6 16 0 ++ [Value.string x_10,
 Value.int
 IntKind.i64 x_11,
 Value.bool x_12,
 Value.bool x_13,
 Value.slice p n_8 c,
 Value.string x_14])).toArray)
 w'_1 w1 ∧
 KeptL [n_6, n] W w1 ∧
 I [] w1 ∧
 m [] w1 < m [] w')
 (R (Ending.returned (Value.pointer (some (Addr.mk n_4 0 none)))) w1))
theorem vc_rclone (x : Option Addr) (w : World) (R : Ending → World → Prop) (h : VC_rclone x w R) : Calls Tryz.prog 42 ([Value.pointer
    x] : List Value).toArray w R := by
  have e : execR2 { P := Tryz.prog, loops := [(5, [])], pur := pur1, tails := [(3, 4), (7, 6)], joins := [], boxes := [], rngs := [(25, 96)] } Tryz.f42.results.toList R (Tryz.f42.body.getD .skip) (initF [Value.pointer
    x] (Tryz.f42.ntmps - ([Value.pointer x] : List Value).length)) w = VC_rclone x w R := by kernel_rfl
  have hb : Tryz.f42.body = some (Tryz.f42.body.getD .skip) := by kernel_rfl
  exact calls_of_exec2' (P := Tryz.prog) (fn := Tryz.f42) (c := Tryz.f42.body.getD .skip) (args := [Value.pointer
    x]) (w := w) (R := R) pur1_ok Tryz.func42 hb e h

def VC_requal (x : Option Addr) (y : Option Addr) (w : World) (R : Ending → World → Prop) : Prop :=
 bsp (x.isNone || y.isNone) (R (Ending.returned (Value.bool (x.isNone && y.isNone))) w)
 (∀ (W : World),
 Loc w.heap.size [] w W →
 ∃ (S : World → Prop),
 S W ∧
 nn true x fun (b o : Nat) =>
 ∃ (p : Option Addr),
 ∃ (n : Nat),
 ∃ (c : Nat),
 (∀ (w' : World), S w' → w'.cell? (Addr.mk b o none) = some (Value.slice p n c)) ∧
 nn true y fun (b o : Nat) =>
 ∃ (p_1 : Option Addr),
 ∃ (n_1 : Nat),
 ∃ (c_1 : Nat),
 (∀ (w' : World), S w' → w'.cell? (Addr.mk b o none) = some (Value.slice p_1 n_1 c_1)) ∧
 CallsS Tryz.prog 63 #[Value.slice p n c, Value.slice p_1 n_1 c_1] W fun (e : Ending) (w' : World) =>
 ∃ (x_1 : Bool),
 e = Ending.returned (Value.bool x_1) ∧
 S w' ∧
 nn x_1 x fun (b o : Nat) =>
 ∃ (x : Option Nat),
 gimp x_1 (∀ (w' : World), S w' → w'.cell? (Addr.mk b (o + 2) none) = some (Value.map x)) ∧
 nn x_1 y fun (b o : Nat) =>
 ∃ (x_2 : Option Nat),
 gimp x_1 (∀ (w' : World), S w' → w'.cell? (Addr.mk b (o + 2) none) = some (Value.map x_2)) ∧
 bsp x_1
 (CallsS Tryz.prog 64 #[Value.map x, Value.map x_2, Value.func (Fn.func 27) #[] #[]] w'
 fun (e : Ending) (w' : World) =>
 ∃ (x : Bool),
 e = Ending.returned (Value.bool x) ∧
 KeptL [] W w' ∧ R (Ending.returned (Value.bool (true && x))) w')
 (KeptL [] W w' ∧ R (Ending.returned (Value.bool false)) w'))
theorem vc_requal (x : Option Addr) (y : Option Addr) (w : World) (R : Ending → World → Prop) (h : VC_requal x y w R) : Calls Tryz.prog 41 ([Value.pointer
    x,
  Value.pointer y] : List Value).toArray w R := by
  have e : execR2 { P := Tryz.prog, loops := [], pur := pur1, tails := [(3, 8)], joins := [], boxes := [] } Tryz.f41.results.toList R (Tryz.f41.body.getD .skip) (initF [Value.pointer
    x,
  Value.pointer
    y] (Tryz.f41.ntmps - ([Value.pointer x,
  Value.pointer y] : List Value).length)) w = VC_requal x y w R := by kernel_rfl
  have hb : Tryz.f41.body = some (Tryz.f41.body.getD .skip) := by kernel_rfl
  exact calls_of_exec2' (P := Tryz.prog) (fn := Tryz.f41) (c := Tryz.f41.body.getD .skip) (args := [Value.pointer x,
  Value.pointer y]) (w := w) (R := R) pur1_ok Tryz.func41 hb e h

def VC_aueq (p : Option Addr) (n : Nat) (c : Nat) (q : Option Addr) (k : Nat) (d : Nat) (w : World) (R : Ending → World → Prop) : Prop :=
 bsp ((↑n : Int) != (↑k : Int)) (R (Ending.returned (Value.bool false)) w)
 (∃ (I : List Value → World → Prop),
 ∃ (m : List Value → World → Nat),
 I [Value.int IntKind.i64 0] w ∧
 ∀ (x : Int) (w' : World),
 I [Value.int IntKind.i64 x] w' →
 bsp (decide (x < (↑n : Int)))
 (nn true p fun (b o : Nat) =>
 (0 ≤ x ∧ x < (↑n : Int)) ∧
 ∃ (x_1 : ByteArray),
 ∃ (f : Nat → Int),
 (∀ (W : World),
 Loc w.heap.size [] w' W →
 AtL W b (o + x.toNat * 17)
 ([Value.string x_1] ++ arrI IntKind.u8 f 16 0)) ∧
 nn true q fun (b o : Nat) =>
 (0 ≤ x ∧ x < (↑k : Int)) ∧
 ∃ (x_2 : ByteArray),
 ∃ (f_1 : Nat → Int),
 (∀ (W : World),
 Loc w.heap.size [] w' W →
 AtL W b (o + x.toNat * 17)
 ([Value.string x_2] ++ arrI IntKind.u8 f_1 16 0)) ∧
 ∃ (r : Bool),
 EqP Tryz.prog 94
 (Value.agg
 ([Value.string x_1] ++ arrI IntKind.u8 f 16 0).toArray)
 (Value.agg
 ([Value.string x_2] ++ arrI IntKind.u8 f_1 16 0).toArray)
 r ∧
 bsp (!r) (∀ (W : World), Loc w.heap.size [] w' W → R (Ending.returned (Value.bool false)) W)
 (∀ (W : World),
 Loc w.heap.size [] w' W →
 I [Value.int IntKind.i64 (IntKind.i64.wrap (x + 1))] W ∧
 m [Value.int IntKind.i64 (IntKind.i64.wrap (x + 1))] W < m [Value.int IntKind.i64 x] w'))
 (R (Ending.returned (Value.bool true)) w'))
theorem vc_aueq (p : Option Addr) (n : Nat) (c : Nat) (q : Option Addr) (k : Nat) (d : Nat) (w : World) (R : Ending → World → Prop) (h : VC_aueq p n c q k d w R) : Calls Tryz.prog 63 ([Value.slice
    p n c,
  Value.slice q k d] : List Value).toArray w R := by
  have e : execR2 { P := Tryz.prog, loops := [(4, [(13, Ck.int IntKind.i64)])], pur := pur1, tails := [], joins := [], boxes := [] } Tryz.f63.results.toList R (Tryz.f63.body.getD .skip) (initF [Value.slice
    p n c,
  Value.slice q k
    d] (Tryz.f63.ntmps - ([Value.slice p n c,
  Value.slice q k d] : List Value).length)) w = VC_aueq p n c q k d w R := by kernel_rfl
  have hb : Tryz.f63.body = some (Tryz.f63.body.getD .skip) := by kernel_rfl
  exact calls_of_exec2' (P := Tryz.prog) (fn := Tryz.f63) (c := Tryz.f63.body.getD .skip) (args := [Value.slice p n c,
  Value.slice q k d]) (w := w) (R := R) pur1_ok Tryz.func63 hb e h

def VC_lsclone (p : Option Addr) (n : Nat) (c : Nat) (w : World) (R : Ending → World → Prop) : Prop :=
 bsp p.isNone (R (Ending.returned (Value.slice none 0 0)) w)
 (∀ (n_1 : Nat) (W : World),
 Loc w.heap.size [Blk.mk n_1 74 [] 2] w W →
 ∃ (base : Nat),
 ∃ (xs : List Value),
 ∃ (news : List Value),
 W.ownsRow base 74 1 (Value.slice (some (Addr.mk n_1 0 none)) 0 0) 0 xs ∧
 news.length = n * 1 ∧
 SrcP W p news ∧
 0 + n ≤ 9223372036854775807 ∧
 (0 + n) * 8 ≤ 140737488355328 ∧
 base ≤ W.heap.size ∧
 ∀ (p' : Option Addr) (c' : Nat) (w' : World),
 w'.ownsRow base 74 1 (Value.slice p' (0 + n) c') (0 + n) (xs ++ news) →
 W.grownBy w' (Value.slice (some (Addr.mk n_1 0 none)) 0 0).ownBlock →
 (0 + n ≤ 0 → p' = some (Addr.mk n_1 0 none) ∧ c' = 0) →
 KeptL [] W w' ∧ R (Ending.returned (Value.slice p' (0 + n) c')) w')
theorem vc_lsclone (p : Option Addr) (n : Nat) (c : Nat) (w : World) (R : Ending → World → Prop) (h : VC_lsclone p n c w R) : Calls Tryz.prog 65 ([Value.slice
    p n c] : List Value).toArray w R := by
  have e : execR2 { P := Tryz.prog, loops := [], pur := pur1, tails := [], joins := [], boxes := [] } Tryz.f65.results.toList R (Tryz.f65.body.getD .skip) (initF [Value.slice
    p n c] (Tryz.f65.ntmps - ([Value.slice p n c] : List Value).length)) w = VC_lsclone p n c w R := by kernel_rfl
  have hb : Tryz.f65.body = some (Tryz.f65.body.getD .skip) := by kernel_rfl
  exact calls_of_exec2' (P := Tryz.prog) (fn := Tryz.f65) (c := Tryz.f65.body.getD .skip) (args := [Value.slice p n
    c]) (w := w) (R := R) pur1_ok Tryz.func65 hb e h

end Go.Proofs.YtkkfnlehlkiejaaGreatDoor

/- The formulas of functions by the symbolic evaluator, and that each gives the call's contract. Written by a program (gen.py). No condition. -/
namespace Go.Proofs.YtkkfnlehlkiejaaGreatDoor
set_option maxRecDepth 100000
set_option linter.unusedVariables false

def VC_mapeq (x : Option Nat) (y : Option Nat) (f : FuncId) (fa : Array Value) (fb : Array Value) (w : World) (R : Ending → World → Prop) : Prop :=
 ∃ (n : Int),
 LenP Tryz.prog 96 (Value.map x) n w ∧
 ∃ (n_1 : Int),
 LenP Tryz.prog 96 (Value.map y) n_1 w ∧
 bsp (n != n_1) (R (Ending.returned (Value.bool false)) w)
 (∃ (n : Nat),
 ∃ (w1 : World),
 RngP Tryz.prog 96 (Value.map x) n w w1 ∧
 KeptL [] w w1 ∧
 ∃ (I : List Value → World → Prop),
 ∃ (m : List Value → World → Nat),
 I [] w1 ∧
 ∀ (w' : World),
 I [] w' →
 ∃ (b : Bool),
 ∃ (r : List Value),
 ∃ (w1 : World),
 NxtP Tryz.prog (Value.pointer (some (Addr.mk n 0 none))) b r w' w1 ∧
 KeptL [] w' w1 ∧
 bsp b
 (∃ (f_1 : Nat → Int),
 ∃ (f_2 : Nat → Int),
 ∃ (f_3 : Nat → Int),
 ∃ (x : ByteArray),
 ∃ (x_1 : Int),
 ∃ (x_2 : Bool),
 ∃ (x_3 : Bool),
 ∃ (p : Option Addr),
 ∃ (n_2 : Nat),
 ∃ (c : Nat),
 ∃ (x_4 : ByteArray),
 EntP Tryz.prog (Value.pointer (some (Addr.mk n 0 none)))
 (Value.tuple
 #[Value.agg
 (arrI IntKind.u8 f_1 32 0).toArray,
 Value.agg
 (arrI IntKind.u8 f_2 32 0 ++ (arrI IntKind.u8 f_3 16 0 ++ [Value.string x,
 Value.int IntKind.i64 x_1, Value.bool x_2, Value.bool x_3, Value.slice p n_2 c,
 Value.string x_4])).toArray])
 w1 ∧
 ∀ (n n_3 : Nat),
 ∃ (f_4 : Nat → Int),
 ∃ (f_5 : Nat → Int),
 ∃ (x_5 : ByteArray),
 ∃ (x_6 : Int),
 ∃ (x_7 : Bool),
 ∃ (x_8 : Bool),
 ∃ (p_1 : Option Addr),
 ∃ (n_4 : Nat),
 ∃ (c_1 : Nat),
 ∃ (x_9 : ByteArray),
 ∃ (b : Bool),
 (∀ (W : World),
 Loc w.heap.size
 [Blk.mk n_3 56
 (arrI IntKind.u8 f_2 32 0 ++ (arrI IntKind.u8 f_3 16 0 ++ [Value.string x, Value.int IntKind.i64 x_1, Value.bool x_2,
 Value.bool x_3, Value.slice p n_2 c, Value.string x_4]))
 (wrM 2),
 Blk.mk n 52
 (arrI IntKind.u8 f_1 32 0)
 (wrM 2)]
 w1 W →
 LookP Tryz.prog 96 (Value.map y)
 (Value.agg
 (arrI IntKind.u8 f_1 32 0).toArray)
 true
 (Value.tuple
 #[Value.agg
 (arrI IntKind.u8 f_4 32 0 ++ (arrI IntKind.u8 f_5 16 0 ++ [Value.string x_5, Value.int IntKind.i64 x_6, Value.bool x_7,
 Value.bool x_8, Value.slice p_1 n_4 c_1, Value.string x_9])).toArray,
 Value.bool b])
 W) ∧
 ∀ (n_5 : Nat) (W : World),
 Loc w.heap.size
 [Blk.mk n_5 56
 (arrI IntKind.u8 f_4 32 0 ++ (arrI IntKind.u8 f_5 16 0 ++ [Value.string x_5, Value.int IntKind.i64 x_6, Value.bool x_7,
 Value.bool x_8, Value.slice p_1 n_4 c_1, Value.string x_9]))
 (wrM 2),
 Blk.mk n_3 56
 (arrI IntKind.u8 f_2 32 0 ++ (arrI IntKind.u8 f_3 16 0 ++ [Value.string x, Value.int IntKind.i64 x_1, Value.bool x_2,
 Value.bool x_3, Value.slice p n_2 c, Value.string x_4]))
 (wrM 2),
 Blk.mk n 52
 (arrI IntKind.u8 f_1 32 0)
 (wrM 2)]
 w1 W →
 bsp (!!b)
 (∃ (f_6 : Nat),
 ∃ (a : Array Value),
 ∃ (b : Array Value),
 Value.func (Fn.func f) fa fb = Value.func (Fn.func f_6) a b ∧
 okFn Tryz.prog f_6 = true ∧
 CallsS Tryz.prog f_6
 (appA a
 [Value.agg
 (arrI IntKind.u8 f_2 32 0 ++ (arrI IntKind.u8 f_3 16 0 ++ [Value.string x, Value.int IntKind.i64 x_1, Value.bool x_2,
 Value.bool x_3, Value.slice p n_2 c, Value.string x_4])).toArray,
 Value.agg
 (arrI IntKind.u8 f_4 32 0 ++ (arrI IntKind.u8 f_5 16 0 ++ [Value.string x_5, Value.int IntKind.i64 x_6, Value.bool x_7,
 Value.bool x_8, Value.slice p_1 n_4 c_1, Value.string x_9])).toArray]
 b)
 W fun (e : Ending) (w'_1 : World) =>
 ∃ (x : Bool),
 e = Ending.returned (Value.bool x) ∧
 KeptL [n_5, n_3, n] W w'_1 ∧
 bsp (false || !x) (R (Ending.returned (Value.bool false)) w'_1)
 (I [] w'_1 ∧ m [] w'_1 < m [] w'))
 (KeptL [n_5, n_3, n] W W ∧ R (Ending.returned (Value.bool false)) W))
 (R (Ending.returned (Value.bool true)) w1))
theorem vc_mapeq (x : Option Nat) (y : Option Nat) (f : FuncId) (fa : Array Value) (fb : Array Value) (w : World) (R : Ending → World → Prop) (h : VC_mapeq x y f fa fb w R) : Calls Tryz.prog 64 ([Value.map
    x,
  Value.map y, Value.func (Fn.func f) fa fb] : List Value).toArray w R := by
  have e : execR2 { P := Tryz.prog, loops := [(4, [])], pur := pur1, tails := [], joins := [], boxes := [], rngs := [(17, 96)] } Tryz.f64.results.toList R (Tryz.f64.body.getD .skip) (initF [Value.map
    x,
  Value.map y,
  Value.func (Fn.func f) fa
    fb] (Tryz.f64.ntmps - ([Value.map x, Value.map y,
  Value.func (Fn.func f) fa fb] : List Value).length)) w = VC_mapeq x y f fa fb w R := by kernel_rfl
  have hb : Tryz.f64.body = some (Tryz.f64.body.getD .skip) := by kernel_rfl
  exact calls_of_exec2' (P := Tryz.prog) (fn := Tryz.f64) (c := Tryz.f64.body.getD .skip) (args := [Value.map x,
  Value.map y, Value.func (Fn.func f) fa fb]) (w := w) (R := R) pur1_ok Tryz.func64 hb e h

end Go.Proofs.YtkkfnlehlkiejaaGreatDoor

/- Chapter 21: the contracts of a registry's Clone and Equal. Lists that are not too long. -/
namespace Go.Proofs.YtkkfnlehlkiejaaGreatDoor
open Go.RowKit Go.Sort Go.Maps

/-! ### Authorities compared, lists copied -/
theorem atKey (x : Au) (hb : BY x.au) (hs : x.pt.size ≤ 1073741824) (D : Nat) : Tryz.prog.keyLits (D + 3) 94 (atC x) = some ([.string x.pt.data.toList] ++ (auI x.au).map (Lit.int .u8)) := by
  unfold Program.keyLits
  rw [Tryz.underlying94]
  simp only
  have c0 : Tryz.prog.cellsOf 94 = 17 := by kernel_rfl
  rw [if_pos ⟨by rw [c0]; rfl, by decide +kernel⟩]
  have h1 := keyLits_bytes (P := Tryz.prog) (t := 53) (e := 5) (n := 16) Tryz.underlying53 Tryz.underlying5 (by kernel_rfl) (by kernel_rfl) (auI_len x.au) (auI_bd hb) D
  have h2 : Tryz.prog.keyLits (D + 2) 9 [.string x.pt] = some [.string x.pt.data.toList] := by
    unfold Program.keyLits
    rw [Tryz.underlying9]
    simp only
    rw [if_pos (by unfold maxLen; omega)]
  have c1 : Tryz.prog.cellsOf 53 = 16 := by kernel_rfl
  have c2 : Tryz.prog.cellsOf 9 = 1 := by kernel_rfl
  simp only [List.mapM_cons, List.mapM_nil, c1, c2]
  have e1 : ((atC x).drop 0).take 1 = [.string x.pt] := rfl
  have e2 : ((atC x).drop 1).take 16 = (auI x.au).map (Value.int .u8) := rfl
  rw [e1, e2, h1, h2]
  simp
theorem atEq (x : Au) (hb : BY x.au) (hs : x.pt.size ≤ 1073741824) : EqP Tryz.prog 94 (.agg (atC x).toArray) (.agg (atC x).toArray) true := by
  have hkey : keyOf Tryz.prog 94 (.agg (atC x).toArray) = some (.string (keyBytes ([.string x.pt.data.toList] ++ (auI x.au).map (Lit.int .u8)))) := by
    unfold keyOf
    rw [Tryz.underlying94]
    simp only
    have h1 : Tryz.prog.keyType 94 = true := by kernel_rfl
    have hf' : (Value.agg (atC x).toArray).formed Tryz.prog 94 = true := by
      unfold Value.formed
      rw [Tryz.underlying94]
      have c0 : Tryz.prog.cellsOf 94 = 17 := by kernel_rfl
      simp only
      rw [c0]; rfl
    rw [h1, hf']
    have h2 := atKey x hb hs (Tryz.prog.types.size - 2)
    have hsz : 2 ≤ Tryz.prog.types.size := by decide +kernel
    have e2 : Tryz.prog.types.size - 2 + 3 = Tryz.prog.types.size + 1 := by omega
    rw [e2] at h2
    have : (Value.agg (atC x).toArray).cells.toList = atC x := by simp [Value.cells]
    rw [this, h2]
    rfl
  refine ⟨fun w => ?_, by kernel_rfl, _, _, rfl, rfl⟩
  obtain ⟨r, hr, hi⟩ := run_equal_deep w (m := 3) (by omega) (by kernel_rfl) (by rw [Tryz.underlying94]) hkey hkey
  rw [hr, hi.2 rfl]
theorem aueq_any (A : List Au) (p : Option Addr) (c : Nat) (q : Option Addr) (d : Nat) (w : World) (hp : RowA atC 17 w p A) (hq : RowA atC 17 w q A) (hb : ∀ x ∈ A, BY x.au) (hs : ∀ x ∈ A, x.pt.size ≤ 1073741824) (hl : A.length ≤ 64) :
    Calls Tryz.prog 63 #[.slice p A.length c, .slice q A.length d] w fun e w' => e = .returned (.bool true) ∧ K0 w w' := by
  refine vc_aueq p A.length c q A.length d w _ (bsp_intro (fun h => by simp at h) (fun _ => ?_))
  refine ⟨fun vs w' => ∃ i : Nat, vs = [.int .i64 (i : Int)] ∧ i ≤ A.length ∧ K0 w w', fun vs _ => (match vs with | .int _ a :: _ => A.length - a.toNat | _ => 0), ⟨0, rfl, by omega, .refl _ _⟩, ?_⟩
  rintro x w1 ⟨i, hv, hi, k1⟩
  simp only [List.cons.injEq, Value.int.injEq, true_and, and_true] at hv
  subst hv
  refine bsp_intro (fun hlt => ?_) (fun hge => ⟨rfl, k1⟩)
  have hlt : i < A.length := by simp at hlt; omega
  obtain ⟨x, b, o, hx, hpb, hat⟩ := (hp.k0 k1).get hlt
  obtain ⟨y, b2, o2, hy, hqb, hat2⟩ := (hq.k0 k1).get hlt
  obtain rfl : x = y := Option.some.inj (hx.symm.trans hy)
  have hxm := List.mem_of_getElem? hx
  rw [Int.toNat_natCast]
  refine nn_is hpb ⟨⟨by omega, by omega⟩, x.pt, x.au, fun W hW => hat.k0 (hW.kk rfl), nn_is hqb ⟨⟨by omega, by omega⟩, x.pt, x.au, fun W hW => hat2.k0 (hW.kk rfl), true, atEq x (hb x hxm) (hs x hxm), bsp_intro (fun h => by cases h) (fun _ => fun W hW => ⟨⟨i + 1, by rw [inc64 (by omega)], hlt, k1.trans (hW.kk rfl)⟩, by rw [inc64 (by omega)]; simp only [Int.toNat_natCast]; omega⟩)⟩⟩
def lpC (b : Nat) : List Value := [.pointer (some ⟨b, 0, none⟩)]
theorem lpC_length (b : Nat) : (lpC b).length = 1 := rfl
theorem lpC_one (b : Nat) : ∀ u ∈ lpC b, u.oneCell' = true := fun u hu => by simp [lpC] at hu; subst hu; rfl
theorem lsclone_any (l : List Nat) (p : Option Addr) (c : Nat) (w : World) (hR : RowA lpC 1 w p l) (hl : l.length ≤ 1000000) :
    Calls Tryz.prog 65 #[.slice p l.length c] w fun e w' => (∃ (p' : Option Addr) (c' : Nat), e = .returned (.slice p' l.length c') ∧ w'.ownsRow w.heap.size 74 1 (.slice p' l.length c') l.length (l.flatMap lpC)) ∧ K0 w w' := by
  refine vc_lsclone p l.length c w _ (bsp_intro (fun h => ?_) (fun h => fun n1 W hW => ?_))
  · obtain rfl : p = none := by simpa using h
    have := rowA_none hR
    subst this
    exact ⟨⟨none, 0, rfl, World.ownsRow_nil _ _ _ _⟩, .refl _ _⟩
  have kW : K0 w W := hW.kk rfl
  have g1 : w.heap.size ≤ n1 := hW.fresh 0 rfl rfl
  have h0 := hW.cells 0 rfl
  refine ⟨w.heap.size, [], l.flatMap lpC, own_none g1 h0, by rw [len_flat lpC 1 l (fun y _ => lpC_length y)], src_rowA (hR.k0 kW) lpC_length lpC_one (by decide), by omega, by omega, kW.size, fun p' c' w' ho hg _ => ?_⟩
  rw [Nat.zero_add] at ho
  rw [Nat.zero_add]
  refine ⟨⟨(kp_grown hg).size, fun _ hx => by cases hx⟩, ⟨p', c', rfl, by simpa using ho⟩, kW.fresh (kp_grown hg) (fun j hj e => by simp only [Value.ownBlock, Option.some.injEq] at e; omega)⟩
/-- The lists of a registry as a row of pointers. -/
theorem RegS.row {w : World} {b mb : Nat} {A : List Au} (h : RegS w b mb A) : ∃ (ap : Option Addr) (ac : Nat) (lp : Option Addr) (lc : Nat) (lbs : List Nat), w.heap[b]? = some (.cells #[.slice ap A.length ac, .slice lp A.length lc, .map (some mb)] 99 (0, 0)) ∧ RowA atC 17 w ap A ∧ lbs.length = A.length ∧ RowA lpC 1 w lp lbs ∧
    ∀ (k : Nat) (x : Au) (lb : Nat), A[k]? = some x → lbs[k]? = some lb → ∃ es, listR x.pt = .inl es ∧ ListR (fun _ => True) w lb x.pt es := by
  obtain ⟨ap, ac, lp, lc, h1, h2, h3⟩ := h
  have key : ∀ i, i < A.length → ∃ lb : Nat, (∃ g o, lp = some ⟨g, o, none⟩ ∧ w.cell? ⟨g, o + i, none⟩ = some (.pointer (some ⟨lb, 0, none⟩))) ∧ ∀ x, A[i]? = some x → ∃ es, listR x.pt = .inl es ∧ ListR (fun _ => True) w lb x.pt es := fun i hi => by
    obtain ⟨g, o, lb, es, a1, a2, a3, a4⟩ := h3 i A[i] (List.getElem?_eq_getElem hi)
    refine ⟨lb, ⟨g, o, a1, a2⟩, fun x hx => ?_⟩
    rw [List.getElem?_eq_getElem hi] at hx
    cases hx
    exact ⟨es, a3, a4⟩
  obtain ⟨lbs, hlen, hL⟩ := list_of key
  refine ⟨ap, ac, lp, lc, lbs, h1, h2, hlen, fun k lb hk => ?_, fun k x lb hx hlb => (hL k lb hlb).2 x hx⟩
  obtain ⟨g, o, a1, a2⟩ := (hL k lb hk).1
  exact ⟨g, o, a1, ⟨At_of _ _ fun j v hv => by
    have hj : j = 0 := by
      have := (List.getElem?_eq_some_iff.1 hv).1
      simp [lpC] at this; exact this
    subst hj
    simp [lpC] at hv
    subst hv
    simpa using a2⟩⟩
theorem RegS.of {w : World} {b mb : Nat} {A : List Au} {ap : Option Addr} {ac : Nat} {lp : Option Addr} {lc : Nat} {lbs : List Nat} (h1 : w.heap[b]? = some (.cells #[.slice ap A.length ac, .slice lp A.length lc, .map (some mb)] 99 (0, 0))) (h2 : RowA atC 17 w ap A) (h3 : lbs.length = A.length) (h4 : RowA lpC 1 w lp lbs)
    (h5 : ∀ (k : Nat) (x : Au) (lb : Nat), A[k]? = some x → lbs[k]? = some lb → ∃ es, listR x.pt = .inl es ∧ ListR (fun _ => True) w lb x.pt es) : RegS w b mb A := by
  refine ⟨ap, ac, lp, lc, h1, h2, fun k x hx => ?_⟩
  have hk := (List.getElem?_eq_some_iff.1 hx).1
  obtain ⟨lb, g, o, hlb, hp, hat⟩ := h4.get (k := k) (by omega)
  obtain ⟨es, a1, a2⟩ := h5 k x lb hx hlb
  exact ⟨g, o, lb, es, hp, by have := hat.cell (j := 0) (v := .pointer (some ⟨lb, 0, none⟩)) rfl; simpa using this, a1, a2⟩

/-! ### Clone -/
/-- The entries of the one are entries of the other. -/
def EqM (l1 l2 : List (List Int × DX)) : Prop := l1.length = l2.length ∧ ∀ a x, aget l1 a = some x → ∃ y, aget l2 a = some y ∧ y.d = x.d
theorem Reg.dis {w : World} {b mb : Nat} {A : List Au} {l : List (List Int × DX)} (h : Reg w b mb A l) : l.Pairwise fun p q => p.1 ≠ q.1 := by
  have := h.map.dis
  unfold amap at this
  rw [List.pairwise_map] at this
  exact this
theorem RngB.no_cell {w : World} {r b : Nat} {todo : List (List Int × Value)} (h : RngB byA w r b todo) {o : Nat} {v : Value} : ¬ w.cell? ⟨r, o, none⟩ = some v := by
  obtain ⟨es, cl, si, c0, se, h1, h2, _⟩ := h.h
  simp [World.cell?, h2]
theorem RngB.no_cells {w : World} {r b : Nat} {todo : List (List Int × Value)} (h : RngB byA w r b todo) {c : Array Value} {t : TypeId} {f : Nat × Nat} : ¬ w.heap[r]? = some (.cells c t f) := by
  obtain ⟨es, cl, si, c0, se, h1, h2, _⟩ := h.h
  rw [h2]; intro h; cases h
theorem RowA.kpC {α : Type} {f : α → List Value} {L : Nat} {w w' : World} {p : Option Addr} {l : List α} {M : Nat → Prop} (h : RowA f L w p l) (hk : Kp M w w') (hm : ∀ g o v, M g → ¬ w.cell? ⟨g, o, none⟩ = some v) : RowA f L w' p l := fun k y hy => by
  obtain ⟨b, o, h1, h2⟩ := h k y hy
  exact ⟨b, o, h1, ⟨At_of _ _ fun j u hu => hk.cell' (h2.cell hu) (fun e => hm _ _ _ e (h2.cell hu))⟩⟩
theorem Reg.kpC {w w' : World} {b mb : Nat} {A : List Au} {l : List (List Int × DX)} {M : Nat → Prop} (h : Reg w b mb A l) (hk : Kp M w w') (hmb : ¬ M mb) (hm : ∀ g o v, M g → ¬ w.cell? ⟨g, o, none⟩ = some v) (hc : ∀ g c t f, M g → ¬ w.heap[g]? = some (.cells c t f)) : Reg w' b mb A l := by
  refine ⟨?_, h.map.kp hk hmb, fun a x hx => ⟨(h.str a x hx).1.kpC hk hm, (h.str a x hx).2⟩, h.ok, h.au⟩
  obtain ⟨ap, ac, lp, lc, h1, h2, h3⟩ := h.st
  refine ⟨ap, ac, lp, lc, hk.blk h1 (fun e => hc b _ _ _ e h1), h2.kpC hk hm, fun k x hx => ?_⟩
  obtain ⟨g, o, lb, es, a1, a2, a3, a4⟩ := h3 k x hx
  exact ⟨g, o, lb, es, a1, hk.cell' a2 (fun e => hm _ _ _ e a2), a3, a4.kpT hk (fun k c t f e hh => absurd hh (hc k c t f e))⟩
theorem erase_ne {l : List (List Int × DX)} (hd : l.Pairwise fun p q => p.1 ≠ q.1) {j : Nat} {q : List Int × DX} (hj : l[j]? = some q) : ∀ p ∈ l.eraseIdx j, q.1 ≠ p.1 := fun p hp => by
  have h1 := (erase_perm l j q hj).symm.pairwise hd (fun {x y} h => fun e => h e.symm)
  exact (List.pairwise_cons.1 h1).1 p hp
set_option maxRecDepth 100000 in
set_option maxHeartbeats 16000000 in
theorem rclone_any {w : World} {b mb : Nat} {A : List Au} {l : List (List Int × DX)} (h : Reg w b mb A l) (hA : A.length ≤ 64) :
    Calls Tryz.prog 42 #[.pointer (some ⟨b, 0, none⟩)] w fun e w' => (∃ (b' mb' : Nat) (l' : List (List Int × DX)), e = .returned (.pointer (some ⟨b', 0, none⟩)) ∧ Reg w' b' mb' A l' ∧ EqM l' l ∧ w.heap.size ≤ b' ∧ w.heap.size ≤ mb') ∧ K0 w w' := by
  refine vc_rclone (some ⟨b, 0, none⟩) w _ (bsp_intro (fun h => by cases h) (fun _ => fun W hW => ?_))
  have kW : K0 w W := hW.kk rfl
  have hQ := h.k0 kW
  obtain ⟨ap, ac, lp, lc, lbs, h1, h2, h3, h4, h5⟩ := hQ.st.row
  have hbl := block_lt h1
  have hml := hQ.map.lt
  have sW := kW.size
  have hAu := fun (wx : World) (k : K0 W wx) => auclone_any A ap ac wx (h2.k0 k) (by omega)
  have hLs := fun (wx : World) (k : K0 W wx) => lsclone_any lbs lp lc wx (h4.k0 k) (by omega)
  rw [h3] at hLs
  have h5' : ∀ (wx : World), K0 W wx → ∀ (k : Nat) (x : Au) (lb : Nat), A[k]? = some x → lbs[k]? = some lb → ∃ es, listR x.pt = .inl es ∧ ListR (fun _ => True) wx lb x.pt es := fun wx kx k x lb hx hlb => by
    obtain ⟨es, a1, a2⟩ := h5 k x lb hx hlb
    exact ⟨es, a1, a2.kp kx (fun _ _ _ h => h)⟩
  refine ⟨fun wx => K0 W wx, .refl _ _, nn_is rfl ⟨ap, A.length, ac, fun wx k => cell_at (k.blk h1 (fun h => h)) rfl, nn_is rfl ⟨lp, A.length, lc, fun wx k => cell_at (k.blk h1 (fun h => h)) rfl, ?_⟩⟩⟩
  refine ⟨⟨(hAu W (.refl _ _)).mono fun e w1 ⟨⟨p1, c1, he, ho1⟩, k1⟩ => ⟨_, _, _, he, k1, ⟨(hLs w1 k1).mono fun e w2 ⟨⟨p2, c2, he, ho2⟩, k2⟩ => ⟨_, _, _, he, fun n3 w3 hn3 => ⟨(k1.trans k2).trans (hn3.kp _), fun n4 wN hn4 => ?_⟩⟩⟩,
    fun n3 w2 hn3 => ⟨k1.trans (hn3.kp _), ⟨(hLs w2 (k1.trans (hn3.kp _))).mono fun e w3 ⟨⟨p2, c2, he, ho2⟩, k2⟩ => ⟨_, _, _, he, fun n4 wN hn4 => ?_⟩⟩⟩⟩⟩,
    fun n3 w1 hn3 => ⟨hn3.kp _, ⟨(hAu w1 (hn3.kp _)).mono fun e w2 ⟨⟨p1, c1, he, ho1⟩, k1⟩ => ⟨_, _, _, he, (hn3.kp _).trans k1, ⟨(hLs w2 ((hn3.kp _).trans k1)).mono fun e w3 ⟨⟨p2, c2, he, ho2⟩, k2⟩ => ⟨_, _, _, he, fun n4 wN hn4 => ?_⟩⟩⟩⟩⟩⟩
  have k4 := hn4.kp (fun _ => False)
  have k3 := hn3.kp (fun _ => False)
  have kN : K0 W wN := ((k1.trans k2).trans k3).trans k4
  have gn3 : W.heap.size ≤ n3 := Nat.le_trans (k1.trans k2).size hn3.ge
  have gn4 : W.heap.size ≤ n4 := Nat.le_trans ((k1.trans k2).trans k3).size hn4.ge
  have ln3 : n3 < n4 := by have := hn3.size; have := hn4.ge; omega
  have hN : Reg wN n4 n3 A [] := ⟨.of hn4.block (RowA.own (owns_kp ho1 ((k2.trans k3).trans k4) (fun _ _ h => h)) atC_length (by decide)) h3 (RowA.own (by rw [← h3] at ho2; exact owns_kp ho2 (k3.trans k4) (fun _ _ h => h)) lpC_length (by decide)) (h5' wN kN), hn3.map.kp k4 (fun h => h), (fun a x hx => by cases hx), (fun a x hx => by cases hx), h.au⟩
  clear hn4 hn3 k3 k4 ho1 ho2 k1 k2 he
  rotate_left
  have k4 := hn4.kp (fun _ => False)
  have k3 := hn3.kp (fun _ => False)
  have kN : K0 W wN := ((k1.trans k3).trans k2).trans k4
  have gn3 : W.heap.size ≤ n3 := Nat.le_trans k1.size hn3.ge
  have gn4 : W.heap.size ≤ n4 := Nat.le_trans ((k1.trans k3).trans k2).size hn4.ge
  have ln3 : n3 < n4 := by have := hn3.size; have := hn4.ge; have := k2.size; omega
  have hN : Reg wN n4 n3 A [] := ⟨.of hn4.block (RowA.own (owns_kp ho1 ((k3.trans k2).trans k4) (fun _ _ h => h)) atC_length (by decide)) h3 (RowA.own (by rw [← h3] at ho2; exact owns_kp ho2 k4 (fun _ _ h => h)) lpC_length (by decide)) (h5' wN kN), (hn3.map.kp k2 (fun h => h)).kp k4 (fun h => h), (fun a x hx => by cases hx), (fun a x hx => by cases hx), h.au⟩
  clear hn4 hn3 k3 k4 ho1 ho2 k1 k2 he
  rotate_left
  have k4 := hn4.kp (fun _ => False)
  have k3 := hn3.kp (fun _ => False)
  have kN : K0 W wN := ((k3.trans k1).trans k2).trans k4
  have gn3 : W.heap.size ≤ n3 := hn3.ge
  have gn4 : W.heap.size ≤ n4 := Nat.le_trans ((k3.trans k1).trans k2).size hn4.ge
  have ln3 : n3 < n4 := by have := hn3.size; have := hn4.ge; have := k2.size; have := k1.size; omega
  have hN : Reg wN n4 n3 A [] := ⟨.of hn4.block (RowA.own (owns_kp ho1 (k2.trans k4) (fun _ _ h => h)) atC_length (by decide)) h3 (RowA.own (by rw [← h3] at ho2; exact owns_kp ho2 k4 (fun _ _ h => h)) lpC_length (by decide)) (h5' wN kN), ((hn3.map.kp k1 (fun h => h)).kp k2 (fun h => h)).kp k4 (fun h => h), (fun a x hx => by cases hx), (fun a x hx => by cases hx), h.au⟩
  clear hn4 hn3 k3 k4 ho1 ho2 k1 k2 he
  rotate_left
  all_goals
    have hQN := hQ.k0 kN
    have hb0 : wN.cell? ⟨b, 0 + 2, none⟩ = some (.map (some mb)) := cell_at (kN.blk h1 (fun h => h)) rfl
    obtain ⟨r, w3, hrun, hR, k3, gr, rlt⟩ := hQN.map.range (t := 96) Tryz.underlying96
    refine ⟨.of_k0 kN, nn_is rfl ⟨some mb, hb0, r, w3, hrun, .of_k0 k3, ?_⟩⟩
    have hN3 := hN.k0 k3
    have hQ3 := hQN.k0 k3
    have ln4 : n4 < wN.heap.size := by obtain ⟨_, _, _, _, hh, _⟩ := hN.st; exact block_lt hh
    refine ⟨fun vs w' => ∃ (todo lc : List (List Int × DX)), vs = [] ∧ RngB byA w' r mb (amap dfV todo) ∧ todo.Sublist l ∧ lc.length + todo.length = l.length ∧ (∀ a x, aget lc a = some x → ∃ y, aget l a = some y ∧ y.d = x.d) ∧
        (∀ p ∈ lc, ∀ q ∈ todo, p.1 ≠ q.1) ∧ Reg w' n4 n3 A lc ∧ Kp (fun k => k = r ∨ k = n3) w3 w',
      fun _ w' => leftN w' r mb, ⟨l, [], rfl, hR, .refl _, by simp, (fun a x hx => by cases hx), (fun p hp => by cases hp), hN3, .refl _ _⟩, ?_⟩
    rintro w4 ⟨todo, lc, _, hR4, hsub, hlen, hrel, hkn, hN4, k4⟩
    have kw3 : K0 w w3 := (kW.trans kN).trans k3
    have kw4 : K0 w w4 := kw3.fresh k4 (fun j hj e => by have := kN.size; omega)
    rcases hR4.next (P := Tryz.prog) with ⟨hnil, hnx⟩ | ⟨j, q, w5, hj, hnx, hent, hR5, k5⟩
    · have htodo : todo = [] := by
        cases todo with
        | nil => rfl
        | cons x t => simp [amap] at hnil
      subst htodo
      refine ⟨false, [], w4, hnx, .of_k0 (.refl _ _), bsp_intro (fun h => by cases h) (fun _ => ?_)⟩
      exact ⟨⟨n4, n3, lc, rfl, hN4, ⟨by simpa using hlen, hrel⟩, by omega, by omega⟩, kw4⟩
    · have hj' : ((todo.map fun p => (p.1, dfV p.2)))[j]? = some q := hj
      rw [List.getElem?_map, Option.map_eq_some_iff] at hj'
      obtain ⟨q, hqj, rfl⟩ := hj'
      have hqt := List.mem_of_getElem? hqj
      have hmem : q ∈ l := hsub.subset hqt
      have hget : aget l q.1 = some q.2 := aget_at h.dis hmem
      obtain ⟨hst, _⟩ := hQ3.str q.1 q.2 hget
      obtain ⟨z0, z1, z2, z3⟩ := hQ3.ok q.1 q.2 hget
      have hz8 := (dchk_sz z0).2.2.2.1
      have her : (amap dfV todo).eraseIdx j = amap dfV (todo.eraseIdx j) := by unfold amap; rw [map_erase']
      rw [her] at hR5
      have hjl := (List.getElem?_eq_some_iff.1 hqj).1
      have helen : (todo.eraseIdx j).length = todo.length - 1 := List.length_eraseIdx_of_lt hjl
      have hl4 := hR4.left
      have hlam : (amap dfV todo).length = todo.length := by simp [amap]
      have hlam5 : (amap dfV (todo.eraseIdx j)).length = todo.length - 1 := by simp [amap, helen]
      have hent : EntP Tryz.prog (.pointer (some ⟨r, 0, none⟩)) (.tuple #[byA q.1, dfV q.2]) w5 := hent
      rw [z2] at hent
      refine ⟨true, _, w5, hnx, .of_kp k5 (fun y hy => by cases hy), bsp_intro (fun _ => ?_) (fun h => by cases h)⟩
      refine ⟨q.2.d.id, q.2.d.id, q.2.d.au, q.2.d.g, q.2.d.v, q.2.d.rm, q.2.d.md, q.2.p, q.2.d.ms.length, q.2.c, q.2.d.tx, hent, fun n5 n6 W6 hW6 => ?_⟩
      have k6 : K0 w5 W6 := hW6.kk rfl
      have b6 := hW6.cells 0 rfl
      have b5 := hW6.cells 1 rfl
      have g5 : w5.heap.size ≤ n5 := hW6.fresh 1 rfl rfl
      have g6 : w5.heap.size ≤ n6 := hW6.fresh 0 rfl rfl
      have k35 : Kp (fun k => k = r ∨ k = n3) w3 w5 := k4.trans (k5.mono fun _ _ h => .inl h)
      have s35 := k35.size
      have hst5 : RowA auC 16 w5 q.2.p q.2.d.ms := fun jj z hz => by
        obtain ⟨gb, go, hp, hat⟩ := hst jj z hz
        obtain ⟨_, _, hp2, hat2⟩ := (h.str q.1 q.2 hget).1 jj z hz
        rw [hp] at hp2
        cases hp2
        have hlt : gb < w.heap.size := cell_lt (hat2.cell (j := 0) (v := .int .u8 (z 0)) rfl)
        refine ⟨gb, go, hp, ⟨At_of _ _ fun ji v hv => k35.cell' (hat.cell hv) (fun e => by omega)⟩⟩
      have hN5 : Reg w5 n4 n3 A lc := hN4.kpC k5 (fun e => by omega) (fun g o v e => by have e : g = r := e; rw [e]; exact hR4.no_cell) (fun g c t f e => by have e : g = r := e; rw [e]; exact hR4.no_cells)
      have hc2 : ∀ wx, K0 W6 wx → wx.cell? ⟨n4, 0 + 2, none⟩ = some (.map (some n3)) := fun wx k => (k6.trans k).cell' hN5.cellM (fun h => h)
      refine ⟨fun wx => K0 W6 wx, .refl _ _, some n3, hc2, q.2.d.id, fun wx k => AtL_block (k.blk b5 (fun h => h)) rfl, q.2.d.id, q.2.d.au, q.2.d.g, q.2.d.v, q.2.d.rm, q.2.d.md, q.2.p, q.2.d.ms.length, q.2.c, q.2.d.tx, fun wx k => AtL_block (k.blk b6 (fun h => h)) rfl, ?_⟩
      refine ⟨(dclone_any q.2 W6 (hst5.k0 k6) (by omega)).mono fun e w7 ⟨⟨p', c', he, ho⟩, k7⟩ => ⟨_, _, _, _, _, _, _, _, _, _, he, k7, ?_⟩⟩
      have hMO : MO w7 W6.heap.size ⟨q.2.d, p', c'⟩ := ho
      have k67 := k6.trans k7
      have hfr : ∀ g o, p' = some ⟨g, o, none⟩ → n4 < g := fun g o hg => by
        have := own_ge ho (k := g) (by rw [hg]; rfl)
        have := k6.size
        have := k3.size
        omega
      obtain ⟨w9, hu, hN9, k9⟩ := (hN5.k0 k67).upd ⟨q.2.d, p', c'⟩ hMO.row hfr ⟨z0, own_le hMO, z3⟩
      have hnew : ∀ p ∈ lc, p.1 ≠ q.1 := fun p hp => hkn p hp q hqt
      have hnew' : ∀ p ∈ lc, p.1 ≠ idI q.2.d.id := by rw [← z2]; exact hnew
      have hR9 := (hR5.kp k67 (fun h => h) (fun h => h)).kp k9 (fun e => by have := kN.size; omega) (fun e => by omega)
      have hag := aset_new (v := (⟨q.2.d, p', c'⟩ : DX)) hnew'
      refine ⟨w9, hu, .of_kp ((k7.mono fun _ _ h => h.elim).trans k9) (fun y hy e => ?_), ⟨todo.eraseIdx j, aset lc (idI q.2.d.id) ⟨q.2.d, p', c'⟩, rfl, hR9, (List.eraseIdx_sublist _ _).trans hsub, ?_, fun a x hx => ?_, fun p hp q' hq' => ?_, hN9, (k35.trans (k67.mono fun _ _ h => h.elim)).trans (k9.mono fun _ _ h => .inr h)⟩, ?_⟩
      · have e : y = n3 := e
        have := k3.size
        simp only [List.mem_cons, List.not_mem_nil, or_false] at hy
        rcases hy with hy | hy <;> omega
      · rw [hag, helen, List.length_append]; simp only [List.length_cons, List.length_nil]; omega
      · rw [aget_aset] at hx
        split at hx
        · rename_i e
          cases hx
          exact ⟨q.2, by rw [← e, ← z2]; exact hget, rfl⟩
        · exact hrel a x hx
      · rw [hag] at hp
        rcases List.mem_append.1 hp with hp | hp
        · exact hkn p hp q' ((List.eraseIdx_sublist _ _).subset hq')
        · simp at hp
          subst hp
          show idI q.2.d.id ≠ q'.1
          rw [← z2]
          exact erase_ne (h.dis.sublist hsub) hqj q' hq'
      · show leftN w9 r mb < leftN w4 r mb
        rw [hl4, hlam, hR9.left, hlam5]; omega

end Go.Proofs.YtkkfnlehlkiejaaGreatDoor

/- Chapter 21: the contract of a registry's Equal. -/
namespace Go.Proofs.YtkkfnlehlkiejaaGreatDoor
open Go.RowKit Go.Sort Go.Maps

def okM (l2 : List (List Int × DX)) (p : List Int × DX) : Bool := match aget l2 p.1 with | some y => dEq p.2.d y.d | none => false
def eqM (l1 l2 : List (List Int × DX)) : Bool := decide (l1.length = l2.length) && l1.all (okM l2)
set_option maxRecDepth 100000 in
set_option maxHeartbeats 4000000 in
theorem mapeq_any {w : World} {b1 m1 b2 m2 : Nat} {A : List Au} {l1 l2 : List (List Int × DX)} (h1 : Reg w b1 m1 A l1) (h2 : Reg w b2 m2 A l2) :
    Calls Tryz.prog 64 #[.map (some m1), .map (some m2), .func (.func 27) #[] #[]] w fun e w' => e = .returned (.bool (eqM l1 l2)) ∧ K0 w w' := by
  refine vc_mapeq (some m1) (some m2) 27 #[] #[] w _ ⟨_, h1.len, _, h2.len, bsp_intro (fun h => ?_) (fun h => ?_)⟩
  · have h : ¬ l1.length = l2.length := fun e => by rw [e] at h; simp at h
    refine ⟨?_, .refl _ _⟩
    unfold eqM
    rw [decide_eq_false h]; rfl
  have hle : l1.length = l2.length := by simp at h; omega
  obtain ⟨r, w1, hrun, hR, k1, gr, rlt⟩ := h1.map.range (t := 96) Tryz.underlying96
  have hm1 := h1.map.lt
  have hm2 := h2.map.lt
  refine ⟨r, w1, hrun, .of_k0 k1, ?_⟩
  refine ⟨fun vs w' => ∃ todo : List (List Int × DX), vs = [] ∧ RngB byA w' r m1 (amap dfV todo) ∧ todo.Sublist l1 ∧ l1.all (okM l2) = todo.all (okM l2) ∧ Kp (· = r) w1 w',
    fun _ w' => leftN w' r m1, ⟨l1, rfl, hR, .refl _, rfl, .refl _ _⟩, ?_⟩
  rintro w4 ⟨todo, _, hR4, hsub, hall, k4⟩
  have kw4 : K0 w w4 := k1.fresh k4 (fun j hj e => by omega)
  rcases hR4.next (P := Tryz.prog) with ⟨hnil, hnx⟩ | ⟨j, q, w5, hj, hnx, hent, hR5, k5⟩
  · have htodo : todo = [] := by
      cases todo with
      | nil => rfl
      | cons x t => simp [amap] at hnil
    subst htodo
    refine ⟨false, [], w4, hnx, .of_k0 (.refl _ _), bsp_intro (fun h => by cases h) (fun _ => ⟨?_, kw4⟩)⟩
    unfold eqM
    rw [hall, decide_eq_true hle]; rfl
  · have hj' : ((todo.map fun p => (p.1, dfV p.2)))[j]? = some q := hj
    rw [List.getElem?_map, Option.map_eq_some_iff] at hj'
    obtain ⟨q, hqj, rfl⟩ := hj'
    have hqt := List.mem_of_getElem? hqj
    have hmem : q ∈ l1 := hsub.subset hqt
    have hget : aget l1 q.1 = some q.2 := aget_at h1.dis hmem
    obtain ⟨z0, z1, z2, z3⟩ := h1.ok q.1 q.2 hget
    have hz8 := (dchk_sz z0).2.2.2.1
    have her : (amap dfV todo).eraseIdx j = amap dfV (todo.eraseIdx j) := by unfold amap; rw [map_erase']
    rw [her] at hR5
    have hjl := (List.getElem?_eq_some_iff.1 hqj).1
    have helen : (todo.eraseIdx j).length = todo.length - 1 := List.length_eraseIdx_of_lt hjl
    have hl4 := hR4.left
    have hlam : (amap dfV todo).length = todo.length := by simp [amap]
    have hlam5 : (amap dfV (todo.eraseIdx j)).length = todo.length - 1 := by simp [amap, helen]
    have kw5 : K0 w w5 := kw4.fresh k5 (fun j hj e => by omega)
    have hall2 : todo.all (okM l2) = (okM l2 q && (todo.eraseIdx j).all (okM l2)) := by
      have := (erase_perm todo j q hqj).all_eq (f := okM l2)
      rw [← this]; rfl
    have hfalse : okM l2 q = false → eqM l1 l2 = false := fun h => by
      unfold eqM
      rw [hall, hall2, h]; simp
    have hent : EntP Tryz.prog (.pointer (some ⟨r, 0, none⟩)) (.tuple #[byA q.1, dfV q.2]) w5 := hent
    rw [z2] at hent
    refine ⟨true, _, w5, hnx, .of_kp k5 (fun y hy => by cases hy), bsp_intro (fun _ => ?_) (fun h => by cases h)⟩
    refine ⟨q.2.d.id, q.2.d.id, q.2.d.au, q.2.d.g, q.2.d.v, q.2.d.rm, q.2.d.md, q.2.p, q.2.d.ms.length, q.2.c, q.2.d.tx, hent, fun n5 n6 => ?_⟩
    have hlk : ∀ W, K0 w W → LookP Tryz.prog 96 (.map (some m2)) (.agg (arrI .u8 q.2.d.id 32 0).toArray) true (.tuple #[dfV ((aget l2 q.1).getD dxz), .bool (aget l2 q.1).isSome]) W := fun W k => by
      rw [z2]; exact (h2.k0 k).look z3.id
    cases hg2 : aget l2 q.1 with
    | none =>
      have hok : okM l2 q = false := by unfold okM; rw [hg2]
      refine ⟨_, _, _, _, _, _, _, _, _, _, false, fun W hW => by have := hlk W (kw5.trans (hW.kk rfl)); rw [hg2] at this; exact this, fun n7 W hW => bsp_intro (fun h => by cases h) (fun _ => ⟨.of_k0 (.refl _ _), by rw [hfalse hok], kw5.trans (hW.kk rfl)⟩)⟩
    | some y =>
      have hok : okM l2 q = dEq q.2.d y.d := by unfold okM; rw [hg2]
      refine ⟨_, _, _, _, _, _, _, _, _, _, true, fun W hW => by have := hlk W (kw5.trans (hW.kk rfl)); rw [hg2] at this; exact this, fun n7 W hW => bsp_intro (fun _ => ?_) (fun h => by cases h)⟩
      have kW : K0 w5 W := hW.kk rfl
      refine ⟨27, #[], #[], rfl, by kernel_rfl, ?_⟩
      refine ⟨(dequal_any q.2 y W ((h1.str q.1 q.2 hget).1.k0 (kw5.trans kW)) ((h2.str q.1 y hg2).1.k0 (kw5.trans kW)) z3 (h2.ok q.1 y hg2).2.2.2 (by omega)).mono fun e w8 ⟨he, k8⟩ => ⟨_, he, .of_k0 k8, bsp_intro (fun h => ?_) (fun h => ?_)⟩⟩
      · have h : dEq q.2.d y.d = false := by simpa using h
        exact ⟨by rw [hfalse (hok.trans h)], (kw5.trans kW).trans k8⟩
      · have h : dEq q.2.d y.d = true := by simpa using h
        have hR8 := (hR5.kp kW (fun h => h) (fun h => h)).kp k8 (fun h => h) (fun h => h)
        refine ⟨⟨todo.eraseIdx j, rfl, hR8, (List.eraseIdx_sublist _ _).trans hsub, ?_, ((k4.trans k5).trans (kW.mono fun _ _ h => h.elim)).trans (k8.mono fun _ _ h => h.elim)⟩, ?_⟩
        · rw [hall, hall2, hok, h]; rfl
        · show leftN w8 r m1 < leftN w4 r m1
          rw [hl4, hlam, hR8.left, hlam5]; omega
set_option maxRecDepth 100000 in
theorem requal_any {w : World} {b1 m1 b2 m2 : Nat} {A : List Au} {l1 l2 : List (List Int × DX)} (h1 : Reg w b1 m1 A l1) (h2 : Reg w b2 m2 A l2) (hA : A.length ≤ 64) (hs : ∀ x ∈ A, x.pt.size ≤ 1073741824) :
    Calls Tryz.prog 41 #[.pointer (some ⟨b1, 0, none⟩), .pointer (some ⟨b2, 0, none⟩)] w fun e w' => e = .returned (.bool (eqM l1 l2)) ∧ K0 w w' := by
  obtain ⟨ap, ac, lp, lc, c1, r1, _⟩ := h1.st
  obtain ⟨ap2, ac2, lp2, lc2, c2, r2, _⟩ := h2.st
  refine vc_requal (some ⟨b1, 0, none⟩) (some ⟨b2, 0, none⟩) w _ (bsp_intro (fun h => by cases h) (fun _ => fun W hW => ?_))
  have kW : K0 w W := hW.kk rfl
  have c1 := kW.blk c1 (fun h => h)
  have c2 := kW.blk c2 (fun h => h)
  refine ⟨fun wx => K0 W wx, .refl _ _, nn_is rfl ⟨ap, A.length, ac, fun wx k => cell_at (k.blk c1 (fun h => h)) rfl, nn_is rfl ⟨ap2, A.length, ac2, fun wx k => cell_at (k.blk c2 (fun h => h)) rfl, ?_⟩⟩⟩
  refine ⟨(aueq_any A ap ac ap2 ac2 W (r1.k0 kW) (r2.k0 kW) h1.au hs hA).mono fun e w1 ⟨he, k1⟩ => ⟨_, he, k1, nn_is rfl ⟨some m1, gimp_intro fun _ wx k => cell_at (k.blk c1 (fun h => h)) rfl, nn_is rfl ⟨some m2, gimp_intro fun _ wx k => cell_at (k.blk c2 (fun h => h)) rfl, bsp_intro (fun _ => ?_) (fun h => by cases h)⟩⟩⟩⟩
  exact ⟨(mapeq_any (h1.k0 (kW.trans k1)) (h2.k0 (kW.trans k1))).mono fun e w2 ⟨he, k2⟩ => ⟨_, he, .of_k0 (k1.trans k2), rfl, (kW.trans k1).trans k2⟩⟩
theorem requal_nil (p : Option Addr) (w : World) : Calls Tryz.prog 41 #[.pointer p, .pointer none] w fun e w' => e = .returned (.bool p.isNone) ∧ K0 w w' :=
  vc_requal p none w _ (bsp_intro (fun _ => ⟨by cases p <;> rfl, .refl _ _⟩) (fun h => by cases p <;> cases h))
theorem rclone_nil (w : World) : Calls Tryz.prog 42 #[.pointer none] w fun e w' => e = .returned (.pointer none) ∧ K0 w w' :=
  vc_rclone none w _ (bsp_intro (fun _ => ⟨rfl, .refl _ _⟩) (fun h => by cases h))

/-! ### Plain -/
section
variable {l1 l2 l3 : List (List Int × DX)}
theorem EqM.eq (h : EqM l1 l2) (hd : l1.Pairwise fun p q => p.1 ≠ q.1) : eqM l1 l2 = true := by
  unfold eqM
  rw [decide_eq_true h.1, Bool.true_and, List.all_eq_true]
  intro p hp
  obtain ⟨y, hy, e⟩ := h.2 p.1 p.2 (aget_at hd hp)
  unfold okM
  rw [hy]
  exact dEq_iff.2 (by rw [e])
theorem eqM_len (h : l1.length ≠ l2.length) : eqM l1 l2 = false := by
  unfold eqM
  rw [decide_eq_false h]; rfl
theorem EqM.refl (l : List (List Int × DX)) : EqM l l := ⟨rfl, fun _ x hx => ⟨x, hx, rfl⟩⟩
/-- The same definitions in any order. -/
theorem eqM_perm (hd2 : l2.Pairwise fun p q => p.1 ≠ q.1) (hk1 : ∀ p ∈ l1, p.1 = idI p.2.d.id) (hk2 : ∀ p ∈ l2, p.1 = idI p.2.d.id) (hp : (l1.map fun q => q.2.d).Perm (l2.map fun q => q.2.d)) : EqM l1 l2 := by
  refine ⟨by have := hp.length_eq; simpa using this, fun a x hx => ?_⟩
  have hm : (a, x) ∈ l1 := aget_mem hx
  have h1 : x.d ∈ l2.map fun q => q.2.d := hp.subset (List.mem_map.2 ⟨(a, x), hm, rfl⟩)
  obtain ⟨q, hq, e⟩ := List.mem_map.1 h1
  have ha : a = idI x.d.id := hk1 _ hm
  have hqa : q.1 = a := by rw [hk2 q hq, e, ha]
  exact ⟨q.2, by rw [← hqa]; exact aget_at hd2 hq, e⟩
end

end Go.Proofs.YtkkfnlehlkiejaaGreatDoor

/- The formulas of functions by the symbolic evaluator, and that each gives the call's contract. Written by a program (gen.py). No condition. -/
namespace Go.Proofs.YtkkfnlehlkiejaaGreatDoor
set_option maxRecDepth 100000
set_option linter.unusedVariables false

def VC_lrdrops (ap : Option Addr) (an : Nat) (ac : Nat) (op : Option Addr) (on : Nat) (oc : Nat) (id : Nat → Int) (au : Nat → Int) (g : ByteArray) (v : Int) (rm : Bool) (md : Bool) (p : Option Addr) (n : Nat) (c : Nat) (t : ByteArray) (w : World) (R : Ending → World → Prop) : Prop :=
 ∀ (n_1 n_2 : Nat) (W : World),
 Loc w.heap.size
 [Blk.mk n_2 50
 (arrI IntKind.u8 id 32 0 ++ (arrI IntKind.u8 au 16 0 ++ [Value.string g,
 Value.int IntKind.i64 v, Value.bool rm, Value.bool md, Value.slice p n c, Value.string t]))
 2,
 Blk.mk n_1 42 [Value.slice ap an ac, Value.slice op on oc] 2]
 w W →
 CallsS Tryz.prog 18 #[Value.agg #[Value.slice ap an ac, Value.slice op on oc]] W fun (e : Ending) (w' : World) =>
 ∃ (x : Option Addr),
 ∃ (p_1 : Option Addr),
 ∃ (n_3 : Nat),
 ∃ (c_1 : Nat),
 ∃ (p_2 : Option Addr),
 ∃ (n_4 : Nat),
 ∃ (c_2 : Nat),
 ∃ (x_1 : Bool),
 e =
 Ending.returned
 (Value.tuple
 #[Value.pointer x, Value.agg #[Value.slice p_1 n_3 c_1, Value.slice p_2 n_4 c_2], Value.bool x_1]) ∧
 KeptL [n_2, n_1] W w' ∧
 ∀ (n_5 : Nat) (W : World),
 Loc w.heap.size
 [Blk.mk n_5 33 [Value.slice p_1 n_3 c_1, Value.slice p_2 n_4 c_2] (wrM 2),
 Blk.mk n_2 50
 (arrI IntKind.u8 id 32 0 ++ (arrI IntKind.u8 au 16 0 ++ [Value.string g, Value.int IntKind.i64 v, Value.bool rm, Value.bool md, Value.slice p n c,
 Value.string t]))
 0,
 Blk.mk n_1 42 [Value.slice ap an ac, Value.slice op on oc] 0]
 w' W →
 bsp (!(!x_1 || x.isNone))
 (CallsS Tryz.prog 15 #[] W fun (e : Ending) (w' : World) =>
 ∃ (x_2 : Bool),
 e = Ending.returned (Value.bool x_2) ∧
 KeptL [n_5, n_2, n_1] W w' ∧
 bsp (false || !x_2)
 (bsp x_1
 (CallsS Tryz.prog 15 #[] w' fun (e : Ending) (w'_1 : World) =>
 ∃ (x : Bool),
 e = Ending.returned (Value.bool x) ∧
 KeptL [n_5, n_2, n_1] w' w'_1 ∧ R (Ending.returned (Value.bool (true && x))) w'_1)
 (KeptL [n_5, n_2, n_1] w' w' ∧ R (Ending.returned (Value.bool false)) w'))
 (CallsS Tryz.prog 42 #[Value.pointer x] w' fun (e : Ending) (w'_1 : World) =>
 ∃ (x_3 : Option Addr),
 e = Ending.returned (Value.pointer x_3) ∧
 KeptL [n_5, n_2, n_1] w' w'_1 ∧
 CallsS Tryz.prog 23
 #[Value.agg
 (arrI IntKind.u8 id 32 0 ++ (arrI IntKind.u8 au 16 0 ++ [Value.string g, Value.int IntKind.i64 v, Value.bool rm, Value.bool md, Value.slice p n c,
 Value.string t])).toArray]
 w'_1 fun (e : Ending) (w' : World) =>
 ∃ (f : Nat → Int),
 ∃ (f_1 : Nat → Int),
 ∃ (x_4 : ByteArray),
 ∃ (x_5 : Int),
 ∃ (x_6 : Bool),
 ∃ (x_7 : Bool),
 ∃ (p : Option Addr),
 ∃ (n : Nat),
 ∃ (c : Nat),
 ∃ (x_8 : ByteArray),
 e =
 Ending.returned
 (Value.agg
 (arrI IntKind.u8 f 32 0 ++ (arrI IntKind.u8 f_1 16 0 ++ [Value.string x_4,
 Value.int IntKind.i64 x_5, Value.bool x_6, Value.bool x_7, Value.slice p n c,
 Value.string x_8])).toArray) ∧
 KeptL [n_5, n_2, n_1] w'_1 w' ∧
 CallsS Tryz.prog 22
 #[Value.pointer x,
 Value.agg
 (arrI IntKind.u8 f 32 0 ++ (arrI IntKind.u8 f_1 16 0 ++ [Value.string x_4, Value.int IntKind.i64 x_5, Value.bool x_6, Value.bool x_7,
 Value.slice p n c, Value.string x_8])).toArray]
 w' fun (e : Ending) (w'_2 : World) =>
 ∃ (x_9 : Int),
 e = Ending.returned (Value.int IntKind.i64 x_9) ∧
 KeptL [n_5, n_2, n_1] w' w'_2 ∧
 bsp (x_9 != 0)
 (CallsS Tryz.prog 41 #[Value.pointer x, Value.pointer x_3] w'_2
 fun (e : Ending) (w' : World) =>
 ∃ (x : Bool),
 e = Ending.returned (Value.bool x) ∧
 KeptL [n_5, n_2, n_1] w'_2 w' ∧ R (Ending.returned (Value.bool x)) w')
 (CallsS Tryz.prog 41 #[Value.pointer x, Value.pointer x_3] w'_2
 fun (e : Ending) (w' : World) =>
 ∃ (x_10 : Bool),
 e = Ending.returned (Value.bool x_10) ∧
 KeptL [n_5, n_2, n_1] w'_2 w' ∧
 bsp (!x_10)
 (CallsS Tryz.prog 19 #[Value.pointer x] w'
 fun (e : Ending) (w'_3 : World) =>
 ∃ (x_11 : Int),
 e = Ending.returned (Value.int IntKind.i64 x_11) ∧
 KeptL [n_5, n_2, n_1] w' w'_3 ∧
 CallsS Tryz.prog 19 #[Value.pointer x_3] w'_3
 fun (e : Ending) (w' : World) =>
 ∃ (x_12 : Int),
 e = Ending.returned (Value.int IntKind.i64 x_12) ∧
 KeptL [n_5, n_2, n_1] w'_3 w' ∧
 bsp (false || x_11 != IntKind.i64.wrap (x_12 + 1))
 (R (Ending.returned (Value.bool false)) w')
 (CallsS Tryz.prog 43
 #[Value.pointer x,
 Value.agg
 (arrI IntKind.u8 id 32 0).toArray]
 w' fun (e : Ending) (w'_4 : World) =>
 ∃ (x_13 : Int),
 e = Ending.returned (Value.int IntKind.i64 x_13) ∧
 KeptL [n_5, n_2, n_1] w' w'_4 ∧
 bsp (x_13 == 0)
 (CallsS Tryz.prog 41 #[Value.pointer x, Value.pointer x_3]
 w'_4 fun (e : Ending) (w' : World) =>
 ∃ (x_14 : Bool),
 e = Ending.returned (Value.bool x_14) ∧
 KeptL [n_5, n_2, n_1] w'_4 w' ∧
 ∃ (f : Nat → Int),
 gimp (true && x_14)
 (AtL w' n_2 0
 (arrI IntKind.u8 f 32 0)) ∧
 bsp (true && x_14)
 (CallsS Tryz.prog 43
 #[Value.pointer x,
 Value.agg
 (arrI IntKind.u8 f 32 0).toArray]
 w' fun (e : Ending) (w'_5 : World) =>
 ∃ (x : Int),
 e = Ending.returned (Value.int IntKind.i64 x) ∧
 KeptL [n_5, n_2, n_1] w' w'_5 ∧
 R
 (Ending.returned
 (Value.bool (true && x == 8)))
 w'_5)
 (KeptL [n_5, n_2, n_1] w' w' ∧
 R (Ending.returned (Value.bool false)) w'))
 (KeptL [n_5, n_2, n_1] w'_4 w'_4 ∧
 ∃ (f : Nat → Int),
 True ∧
 KeptL [n_5, n_2, n_1] w'_4 w'_4 ∧
 R (Ending.returned (Value.bool false)) w'_4)))
 (KeptL [n_5, n_2, n_1] w' w' ∧
 KeptL [n_5, n_2, n_1] w' w' ∧
 R (Ending.returned (Value.bool false)) w'))))
 (KeptL [n_5, n_2, n_1] W W ∧
 bsp x_1
 (CallsS Tryz.prog 15 #[] W fun (e : Ending) (w' : World) =>
 ∃ (x : Bool),
 e = Ending.returned (Value.bool x) ∧
 KeptL [n_5, n_2, n_1] W w' ∧ R (Ending.returned (Value.bool (true && x))) w')
 (KeptL [n_5, n_2, n_1] W W ∧ R (Ending.returned (Value.bool false)) W))
theorem vc_lrdrops (ap : Option Addr) (an : Nat) (ac : Nat) (op : Option Addr) (on : Nat) (oc : Nat) (id : Nat → Int) (au : Nat → Int) (g : ByteArray) (v : Int) (rm : Bool) (md : Bool) (p : Option Addr) (n : Nat) (c : Nat) (t : ByteArray) (w : World) (R : Ending → World → Prop) (h : VC_lrdrops ap an ac op on oc id au g v rm md p n c t w R) : Calls Tryz.prog 10 ([Value.agg
    #[Value.slice ap an ac, Value.slice op on oc],
  Value.agg
    (arrI IntKind.u8 id 32 0 ++
        (arrI IntKind.u8 au 16 0 ++
          [Value.string g, Value.int IntKind.i64 v, Value.bool rm, Value.bool md, Value.slice p n c,
            Value.string t])).toArray] : List Value).toArray w R := by
  have e : execR2 { P := Tryz.prog, loops := [], pur := pur1, tails := [], joins := [], boxes := [] } Tryz.f10.results.toList R (Tryz.f10.body.getD .skip) (initF [Value.agg
    #[Value.slice ap an ac, Value.slice op on oc],
  Value.agg
    (arrI IntKind.u8 id 32 0 ++
        (arrI IntKind.u8 au 16 0 ++
          [Value.string g, Value.int IntKind.i64 v, Value.bool rm, Value.bool md, Value.slice p n c,
            Value.string
              t])).toArray] (Tryz.f10.ntmps - ([Value.agg #[Value.slice ap an ac, Value.slice op on oc],
  Value.agg
    (arrI IntKind.u8 id 32 0 ++
        (arrI IntKind.u8 au 16 0 ++
          [Value.string g, Value.int IntKind.i64 v, Value.bool rm, Value.bool md, Value.slice p n c,
            Value.string
              t])).toArray] : List Value).length)) w = VC_lrdrops ap an ac op on oc id au g v rm md p n c t w R := by kernel_rfl
  have hb : Tryz.f10.body = some (Tryz.f10.body.getD .skip) := by kernel_rfl
  exact calls_of_exec2' (P := Tryz.prog) (fn := Tryz.f10) (c := Tryz.f10.body.getD .skip) (args := [Value.agg
    #[Value.slice ap an ac, Value.slice op on oc],
  Value.agg
    (arrI IntKind.u8 id 32 0 ++
        (arrI IntKind.u8 au 16 0 ++
          [Value.string g, Value.int IntKind.i64 v, Value.bool rm, Value.bool md, Value.slice p n c,
            Value.string t])).toArray]) (w := w) (R := R) pur1_ok Tryz.func10 hb e h

end Go.Proofs.YtkkfnlehlkiejaaGreatDoor

/- Chapter 21: RegistryDrops on worlds. No condition but what a reading gives. -/
namespace Go.Proofs.YtkkfnlehlkiejaaGreatDoor
open Go.RowKit Go.Maps

theorem nodup_perm {α : Type} [DecidableEq α] : ∀ {l1 l2 : List α}, l1.Nodup → (∀ x ∈ l1, x ∈ l2) → ∃ r, (l1 ++ r).Perm l2
  | [], l2, _, _ => ⟨l2, .refl _⟩
  | a :: t, l2, hn, hs => by
    have hn' := List.nodup_cons.1 hn
    have ha := hs a List.mem_cons_self
    obtain ⟨r, hr⟩ := nodup_perm (l1 := t) (l2 := l2.erase a) hn'.2 (fun x hx => (List.mem_erase_of_ne (fun e => hn'.1 (by rw [← e]; exact hx))).2 (hs x (List.mem_cons_of_mem _ hx)))
    exact ⟨r, ((hr.cons a).trans (List.perm_cons_erase ha).symm)⟩
section
variable {l1 l2 : List (List Int × DX)}
theorem EqM.symm (h : EqM l1 l2) (hd1 : l1.Pairwise fun p q => p.1 ≠ q.1) : EqM l2 l1 := by
  have hn : (l1.map fun p => p.1).Nodup := by show List.Pairwise _ _; rw [List.pairwise_map]; exact hd1
  have hs : ∀ a ∈ l1.map (fun p => p.1), a ∈ l2.map fun p => p.1 := fun a ha => by
    obtain ⟨p, hp, rfl⟩ := List.mem_map.1 ha
    obtain ⟨y, hy, _⟩ := h.2 p.1 p.2 (aget_at hd1 hp)
    exact List.mem_map.2 ⟨_, aget_mem hy, rfl⟩
  obtain ⟨r, hr⟩ := nodup_perm hn hs
  have hrn : r = [] := by
    have := hr.length_eq
    rw [List.length_append, List.length_map, List.length_map, h.1] at this
    exact List.eq_nil_of_length_eq_zero (by omega)
  rw [hrn, List.append_nil] at hr
  refine ⟨h.1.symm, fun a y hy => ?_⟩
  have ha : a ∈ l1.map fun p => p.1 := hr.symm.subset (List.mem_map.2 ⟨_, aget_mem hy, rfl⟩)
  obtain ⟨p, hp, e⟩ := List.mem_map.1 ha
  have hx := aget_at hd1 hp
  rw [e] at hx
  obtain ⟨y', hy', e'⟩ := h.2 a p.2 hx
  rw [hy] at hy'
  cases hy'
  exact ⟨p.2, hx, e'.symm⟩
theorem adel_snoc {l : List (List Int × DX)} {a : List Int} {v : DX} (h : ∀ p ∈ l, p.1 ≠ a) : adel (l ++ [(a, v)]) a = l := by
  unfold adel
  rw [List.filter_append, List.filter_eq_self.2 (fun p hp => by simpa using h p hp)]
  simp
end
theorem Reg.kpM {w w' : World} {b mb m : Nat} {A : List Au} {l : List (List Int × DX)} {es : Array MapEntry} {c : Nat} (h : Reg w b mb A l) (hk : Kp (· = m) w w') (hm : w.heap[m]? = some (.map es c)) (hne : mb ≠ m) : Reg w' b mb A l := by
  refine ⟨?_, h.map.kp hk (fun e => hne e), fun a x hx => ⟨(h.str a x hx).1.kpM hk hm, (h.str a x hx).2⟩, h.ok, h.au⟩
  obtain ⟨ap, ac, lp, lc, h1, h2, h3⟩ := h.st
  refine ⟨ap, ac, lp, lc, hk.blk h1 (fun e => by have e : b = m := e; subst e; rw [hm] at h1; cases h1), h2.kpM hk hm, fun k x hx => ?_⟩
  obtain ⟨g, o, lb, es, a1, a2, a3, a4⟩ := h3 k x hx
  exact ⟨g, o, lb, es, a1, hk.cell' a2 (fun e => cell_ne_map a2 hm e), a3, a4.kpT hk (fun k c t f e hh => by have e : k = m := e; subst e; rw [hm] at hh; cases hh)⟩
set_option maxRecDepth 100000 in
set_option maxHeartbeats 8000000 in
theorem lrdrops_any (As : List Au) (ap : Option Addr) (ac : Nat) (Os : List OpY) (op : Option Addr) (oc : Nat) (m : DX) (w : World) (hA : RowA atC 17 w ap As) (hB : ∀ x ∈ As, BY x.au) (hO : RowA opC 55 w op Os) (hR : ∀ x ∈ Os, DfR w x.x) (hm : DfR w m) (hG : GW w) :
    Calls Tryz.prog 10 #[.agg #[.slice ap As.length ac, .slice op Os.length oc], dfV m] w fun e w' => e = .returned (.bool true) ∧ K0 w w' := by
  refine vc_lrdrops ap As.length ac op Os.length oc m.d.id m.d.au m.d.g m.d.v m.d.rm m.d.md m.p m.d.ms.length m.c m.d.tx w _ (fun n1 n2 W hW => ?_)
  have kW : K0 w W := hW.kk rfl
  have hG' : ∀ {wa : World}, K0 w wa → GW wa := fun k => hG.kp k (fun h => h)
  refine ⟨(lplay_any As ap ac Os op oc W (hA.k0 kW) hB (hO.k0 kW) (fun x hx => (hR x hx).k0 kW) (hG' kW)).mono fun e w1 hQ => ?_⟩
  rcases hQ with ⟨p, k, c, q, m, d, he, k1⟩ | ⟨b, mb, rp, rc, l, ds, dp, dc, he, hI, hOK, h30⟩
  · refine ⟨_, _, _, _, _, _, _, _, he, .of_k0 k1, fun n3 W2 hW2 => bsp_intro (fun h => by simp at h) (fun _ => ?_)⟩
    have k02 := (kW.trans k1).trans (hW2.kk rfl : K0 w1 W2)
    exact ⟨.refl _ _, bsp_intro (fun _ => ⟨(known_any W2 (hG' k02)).mono fun e w3 ⟨he, k3⟩ => ⟨_, he, .of_k0 k3, rfl, k02.trans k3⟩⟩) (fun h => by cases h)⟩
  refine ⟨_, _, _, _, _, _, _, _, he, .of_k0 hI.k, fun n5 W2 hW2 => bsp_intro (fun _ => ?_) (fun h => by simp at h)⟩
  have k2 : K0 w1 W2 := hW2.kk rfl
  have k02 := (kW.trans hI.k).trans k2
  have b1 := hW2.cells 2 rfl
  have b2 := hW2.cells 1 rfl
  have b5 := hW2.cells 0 rfl
  refine ⟨(known_any W2 (hG' k02)).mono fun e w3 ⟨he, k3⟩ => ⟨_, he, .of_k0 k3, bsp_intro (fun h => by simp at h) (fun _ => ?_)⟩⟩
  have hI3 := hI.k0 (k2.trans k3)
  have hml := hI3.reg.map.lt
  refine ⟨(rclone_any hI3.reg hOK.len).mono fun e w4 ⟨⟨b', mb', l', he, hC, hEq, gb', gm'⟩, k4⟩ => ⟨_, he, .of_k0 k4, ?_⟩⟩
  have hEs := hEq.symm hC.dis
  have hll : l'.length = l.length := hEq.1
  have hI4 := hI3.k0 k4
  have k04 := (k02.trans k3).trans k4
  refine ⟨(lto_any m w4 (hm.row.k0 k04)).mono fun e w5 ⟨⟨q, cq, he, hmo⟩, k5⟩ => ⟨_, _, _, _, _, _, _, _, _, _, he, .of_k0 k5, ?_⟩⟩
  have hI5 := hI4.k0 k5
  have hC5 := hC.k0 k5
  have k05 := k04.trans k5
  have zx := toD_OK hm.ok
  obtain ⟨es, cm, hmb, _⟩ := hI5.reg.map.blk
  have hne : mb' ≠ mb := by omega
  have k25 := (k3.trans k4).trans k5
  have b1' := k25.blk b1 (fun h => h)
  have b2' := k25.blk b2 (fun h => h)
  have b5' := k25.blk b5 (fun h => h)
  have hkl2 : ∀ {wa wb : World}, Kp (· = mb) wa wb → KeptL [n5, n2, n1] wa wb := fun kb => .of_kp kb (fun y hy e => by
    have e : y = mb := e
    subst e
    simp only [List.mem_cons, List.not_mem_nil, or_false] at hy
    rcases hy with hy | hy | hy
    · subst hy; rw [b5'] at hmb; cases hmb
    · subst hy; rw [b2'] at hmb; cases hmb
    · subst hy; rw [b1'] at hmb; cases hmb)
  have gmw : w.heap.size ≤ mb := by have := hI.gm; have := kW.size; omega
  refine ⟨(radd_any hI5.reg hOK.len ⟨toD m.d, q, cq⟩ hmo.row (own_le hmo) zx (hG' k05)).mono fun e w6 ⟨he, hQ⟩ => ?_⟩
  rcases hQ with ⟨hnz, hReg6, k6⟩ | ⟨h0, p', c', hReg6, _, k6⟩
  · refine ⟨_, he, .of_k0 k6, bsp_intro (fun _ => ?_) (fun h => by exfalso; simp at h; exact hnz h)⟩
    refine ⟨(requal_any hReg6 (hC5.k0 k6) hOK.len hOK.sz).mono fun e w7 ⟨he, k7⟩ => ⟨_, he, .of_k0 k7, ?_, (k05.trans k6).trans k7⟩⟩
    rw [hEs.eq hReg6.dis]
  obtain ⟨_, _, z3, _⟩ := addE_zero h0
  have hnew := aget_none.1 z3
  rw [aset_new hnew] at hReg6
  have k06 : K0 w w6 := k05.fresh k6 (fun j hj e => by omega)
  refine ⟨_, he, hkl2 k6, bsp_intro (fun h => by exfalso; rw [show addE (autL As) l (DX.mk (toD m.d) q cq).d = 0 from h0] at h; simp at h) (fun _ => ?_)⟩
  have hC6 := hC5.kpM k6 hmb hne
  have hnl : (l ++ [(idI (toD m.d).id, (⟨toD m.d, p', c'⟩ : DX))]).length = l.length + 1 := by simp
  have b26 : w6.heap[n2]? = _ := k6.blk b2' (fun e => by have e : n2 = mb := e; subst e; rw [b2'] at hmb; cases hmb)
  have b16 : w6.heap[n1]? = _ := k6.blk b1' (fun e => by have e : n1 = mb := e; subst e; rw [b1'] at hmb; cases hmb)
  have b56 : w6.heap[n5]? = _ := k6.blk b5' (fun e => by have e : n5 = mb := e; subst e; rw [b5'] at hmb; cases hmb)
  refine ⟨(requal_any hReg6 hC6 hOK.len hOK.sz).mono fun e w7 ⟨he, k7⟩ => ?_⟩
  rw [eqM_len (by rw [hnl]; omega)] at he
  refine ⟨_, he, .of_k0 k7, bsp_intro (fun _ => ?_) (fun h => by cases h)⟩
  refine ⟨(rlen_any (hReg6.k0 k7)).mono fun e w8 ⟨he, k8⟩ => ⟨_, he, .of_k0 k8, ?_⟩⟩
  refine ⟨(rlen_any (hC6.k0 (k7.trans k8))).mono fun e w9 ⟨he, k9⟩ => ⟨_, he, .of_k0 k9, ?_⟩⟩
  have k69 := (k7.trans k8).trans k9
  have hReg9 := hReg6.k0 k69
  have hC9 := hC6.k0 k69
  rw [hll, inc64 (by omega), hnl]
  refine bsp_intro (fun h => by simp at h) (fun _ => ?_)
  obtain ⟨es9, cm9, hmb9, _⟩ := hReg9.map.blk
  have b29 := k69.blk b26 (fun h => h)
  have b19 := k69.blk b16 (fun h => h)
  have b59 := k69.blk b56 (fun h => h)
  refine ⟨(rdrop_any hReg9 m.d.id hm.ok.id).mono fun e w10 ⟨hQ, k10⟩ => ?_⟩
  have hsome : (aget (l ++ [(idI (toD m.d).id, (⟨toD m.d, p', c'⟩ : DX))]) (idI m.d.id)).isSome = true := by
    rw [← aset_new hnew, aget_aset]; exact congrArg Option.isSome (if_pos rfl)
  rcases hQ with ⟨h, _⟩ | ⟨_, he, hReg10⟩
  · rw [h] at hsome; cases hsome
  have hback : adel (l ++ [(idI (toD m.d).id, (⟨toD m.d, p', c'⟩ : DX))]) (idI m.d.id) = l := adel_snoc hnew
  rw [hback] at hReg10
  have k010 : K0 w w10 := (k06.trans k69).fresh k10 (fun j hj e => by omega)
  refine ⟨_, he, hkl2 k10, bsp_intro (fun _ => ?_) (fun h => by cases h)⟩
  have hC10 := hC9.kpM k10 hmb9 hne
  refine ⟨(requal_any hReg10 hC10 hOK.len hOK.sz).mono fun e w11 ⟨he, k11⟩ => ?_⟩
  rw [hEs.eq hReg10.dis] at he
  have b210 : w10.heap[n2]? = _ := k10.blk b29 (fun e => by have e : n2 = mb := e; subst e; rw [b29] at hmb9; cases hmb9)
  refine ⟨_, he, .of_k0 k11, m.d.id, gimp_intro fun _ => AtL_block (k11.blk b210 (fun h => h)) rfl, bsp_intro (fun _ => ?_) (fun h => by cases h)⟩
  refine ⟨(rdrop_any (hReg10.k0 k11) m.d.id hm.ok.id).mono fun e w12 ⟨hQ, k12⟩ => ?_⟩
  rcases hQ with ⟨_, he, _⟩ | ⟨h, _⟩
  · exact ⟨_, he, hkl2 k12, rfl, (k010.trans k11).fresh k12 (fun j hj e => by omega)⟩
  · have z3' : aget l (idI m.d.id) = none := z3
    rw [z3'] at h; cases h

end Go.Proofs.YtkkfnlehlkiejaaGreatDoor
