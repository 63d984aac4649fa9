/- The formulas of functions by the symbolic evaluator, and that each gives the call's contract. Written by a program (gen.py). No condition. -/
import Derived.Test.YtkkfnlehlkiejaaGreatDoorProg
import Derived.Test.YtkkfnlehlkiejaaGreatDoorZ02
import Derived.Test.YtkkfnlehlkiejaaGreatDoorZ03
import Derived.Test.YtkkfnlehlkiejaaGreatDoorZ05
import Derived.KernelRfl
import Derived.Test.YtkkfnlehlkiejaaGreatDoorZ11
namespace Go.Proofs.YtkkfnlehlkiejaaGreatDoor
set_option maxRecDepth 100000
set_option linter.unusedVariables false

def VC_xless (id : Nat → Int) (au : Nat → Int) (g : ByteArray) (v : Int) (rm : Bool) (md : Bool) (p : Option Addr) (n : Nat) (c : Nat) (t : ByteArray) (id2 : Nat → Int) (au2 : Nat → Int) (g2 : ByteArray) (v2 : Int) (rm2 : Bool) (md2 : Bool) (p2 : Option Addr) (n2 : Nat) (c2 : Nat) (t2 : ByteArray) (w : World) (R : Ending → World → Prop) : Prop :=
 ∀ (n_1 n_2 : Nat),
 bsp (v != v2)
 (∀ (W : World),
 Loc w.heap.size
 [Blk.mk n_2 50
 (arrI IntKind.u8 id2 32 0 ++ (arrI IntKind.u8 au2 16 0 ++ [Value.string g2,
 Value.int IntKind.i64 v2, Value.bool rm2, Value.bool md2, Value.slice p2 n2 c2, Value.string t2]))
 2,
 Blk.mk n_1 50
 (arrI IntKind.u8 id 32 0 ++ (arrI IntKind.u8 au 16 0 ++ [Value.string g,
 Value.int IntKind.i64 v, Value.bool rm, Value.bool md, Value.slice p n c, Value.string t]))
 2]
 w W →
 R (Ending.returned (Value.bool (decide (v > v2)))) W)
 (∀ (W : World),
 Loc w.heap.size
 [Blk.mk n_2 50
 (arrI IntKind.u8 id2 32 0 ++ (arrI IntKind.u8 au2 16 0 ++ [Value.string g2,
 Value.int IntKind.i64 v2, Value.bool rm2, Value.bool md2, Value.slice p2 n2 c2, Value.string t2]))
 2,
 Blk.mk n_1 50
 (arrI IntKind.u8 id 32 0 ++ (arrI IntKind.u8 au 16 0 ++ [Value.string g,
 Value.int IntKind.i64 v, Value.bool rm, Value.bool md, Value.slice p n c, Value.string t]))
 2]
 w W →
 ∃ (s : ByteArray),
 (s.size = 32 ∧ BytesP W (some (Addr.mk n_1 0 none)) s) ∧
 ∃ (s_1 : ByteArray),
 (s_1.size = 32 ∧ BytesP W (some (Addr.mk n_2 0 none)) s_1) ∧
 R (Ending.returned (Value.bool (Op.bytesLess s.toList s_1.toList))) W)
theorem vc_xless (id : Nat → Int) (au : Nat → Int) (g : ByteArray) (v : Int) (rm : Bool) (md : Bool) (p : Option Addr) (n : Nat) (c : Nat) (t : ByteArray) (id2 : Nat → Int) (au2 : Nat → Int) (g2 : ByteArray) (v2 : Int) (rm2 : Bool) (md2 : Bool) (p2 : Option Addr) (n2 : Nat) (c2 : Nat) (t2 : ByteArray) (w : World) (R : Ending → World → Prop) (h : VC_xless id au g v rm md p n c t id2 au2 g2 v2 rm2 md2 p2 n2 c2 t2 w R) : Calls Tryz.prog 58 ([Value.agg
    (arrI IntKind.u8 id 32 0 ++
        (arrI IntKind.u8 au 16 0 ++
          [Value.string g, Value.int IntKind.i64 v, Value.bool rm, Value.bool md, Value.slice p n c,
            Value.string t])).toArray,
  Value.agg
    (arrI IntKind.u8 id2 32 0 ++
        (arrI IntKind.u8 au2 16 0 ++
          [Value.string g2, Value.int IntKind.i64 v2, Value.bool rm2, Value.bool md2, Value.slice p2 n2 c2,
            Value.string t2])).toArray] : List Value).toArray w R := by
  have e : execR2 { P := Tryz.prog, loops := [], pur := pur1, tails := [], joins := [], boxes := [] } Tryz.f58.results.toList R (Tryz.f58.body.getD .skip) (initF [Value.agg
    (arrI IntKind.u8 id 32 0 ++
        (arrI IntKind.u8 au 16 0 ++
          [Value.string g, Value.int IntKind.i64 v, Value.bool rm, Value.bool md, Value.slice p n c,
            Value.string t])).toArray,
  Value.agg
    (arrI IntKind.u8 id2 32 0 ++
        (arrI IntKind.u8 au2 16 0 ++
          [Value.string g2, Value.int IntKind.i64 v2, Value.bool rm2, Value.bool md2, Value.slice p2 n2 c2,
            Value.string
              t2])).toArray] (Tryz.f58.ntmps - ([Value.agg
    (arrI IntKind.u8 id 32 0 ++
        (arrI IntKind.u8 au 16 0 ++
          [Value.string g, Value.int IntKind.i64 v, Value.bool rm, Value.bool md, Value.slice p n c,
            Value.string t])).toArray,
  Value.agg
    (arrI IntKind.u8 id2 32 0 ++
        (arrI IntKind.u8 au2 16 0 ++
          [Value.string g2, Value.int IntKind.i64 v2, Value.bool rm2, Value.bool md2, Value.slice p2 n2 c2,
            Value.string
              t2])).toArray] : List Value).length)) w = VC_xless id au g v rm md p n c t id2 au2 g2 v2 rm2 md2 p2 n2 c2 t2 w R := by kernel_rfl
  have hb : Tryz.f58.body = some (Tryz.f58.body.getD .skip) := by kernel_rfl
  exact calls_of_exec2' (P := Tryz.prog) (fn := Tryz.f58) (c := Tryz.f58.body.getD .skip) (args := [Value.agg
    (arrI IntKind.u8 id 32 0 ++
        (arrI IntKind.u8 au 16 0 ++
          [Value.string g, Value.int IntKind.i64 v, Value.bool rm, Value.bool md, Value.slice p n c,
            Value.string t])).toArray,
  Value.agg
    (arrI IntKind.u8 id2 32 0 ++
        (arrI IntKind.u8 au2 16 0 ++
          [Value.string g2, Value.int IntKind.i64 v2, Value.bool rm2, Value.bool md2, Value.slice p2 n2 c2,
            Value.string t2])).toArray]) (w := w) (R := R) pur1_ok Tryz.func58 hb e h

def VC_xvers (ap : Option Addr) (an : Nat) (ac : Nat) (dp : Option Addr) (dn : Nat) (dc : Nat) (s : ByteArray) (w : World) (R : Ending → World → Prop) : Prop :=
 ∀ (n : Nat) (W : World),
 Loc w.heap.size [Blk.mk n 33 [Value.slice ap an ac, Value.slice dp dn dc] 2] w W →
 ∃ (I : List Value → World → Prop),
 ∃ (m : List Value → World → Nat),
 I [Value.int IntKind.i64 0, Value.slice none 0 0] W ∧
 ∀ (x : Int) (p : Option Addr) (n_1 c : Nat) (w' : World),
 I [Value.int IntKind.i64 x, Value.slice p n_1 c] w' →
 Loc w.heap.size [Blk.mk n 33 [Value.slice ap an ac, Value.slice dp dn dc] 0] w' w' →
 bsp (decide (x < (↑dn : Int)))
 (nn true dp fun (b o : Nat) =>
 (0 ≤ x ∧ x < (↑dn : Int)) ∧
 ∃ (x_1 : ByteArray),
 w'.cell? (Addr.mk b (o + x.toNat * 54 + 48) none) = some (Value.string x_1) ∧
 bsp (!x_1.toList == s.toList)
 (I [Value.int IntKind.i64 (IntKind.i64.wrap (x + 1)), Value.slice p n_1 c] w' ∧
 m [Value.int IntKind.i64 (IntKind.i64.wrap (x + 1)), Value.slice p n_1 c] w' <
 m [Value.int IntKind.i64 x, Value.slice p n_1 c] w')
 (∃ (I_1 : List Value → World → Prop),
 ∃ (m_1 : List Value → World → Nat),
 I_1 [Value.int IntKind.i64 (↑n_1 : Int)] w' ∧
 ∀ (x_2 : Int) (w'_1 : World),
 I_1 [Value.int IntKind.i64 x_2] w'_1 →
 Loc w.heap.size [Blk.mk n 33 [Value.slice ap an ac, Value.slice dp dn dc] 0] w'_1 w'_1 →
 ∃ (p_1 : Option Addr),
 ∃ (n_2 : Nat),
 ∃ (c_1 : Nat),
 gimp (decide (x_2 > 0))
 (∀ (W : World),
 Loc w.heap.size [Blk.mk n 33 [Value.slice ap an ac, Value.slice dp dn dc] 0] w'_1 W →
 W.cell? (Addr.mk n (0 + 1) none) = some (Value.slice p_1 n_2 c_1)) ∧
 nn (decide (x_2 > 0)) p_1 fun (b o : Nat) =>
 gimp (decide (x_2 > 0)) (0 ≤ x ∧ x < (↑n_2 : Int)) ∧
 ∃ (f : Nat → Int),
 ∃ (f_1 : Nat → Int),
 ∃ (x_3 : ByteArray),
 ∃ (x_4 : Int),
 ∃ (x_5 : Bool),
 ∃ (x_6 : Bool),
 ∃ (p_2 : Option Addr),
 ∃ (n_3 : Nat),
 ∃ (c_2 : Nat),
 ∃ (x_7 : ByteArray),
 gimp (decide (x_2 > 0))
 (∀ (W : World),
 Loc w.heap.size [Blk.mk n 33 [Value.slice ap an ac, Value.slice dp dn dc] 0] w'_1
 W →
 AtL W b (o + x.toNat * 54)
 (arrI IntKind.u8 f 32 0 ++ (arrI IntKind.u8 f_1 16 0 ++ [Value.string x_3, Value.int IntKind.i64 x_4, Value.bool x_5, Value.bool x_6,
 Value.slice p_2 n_3 c_2, Value.string x_7]))) ∧
 nn (decide (x_2 > 0)) p fun (b o : Nat) =>
 gimp (decide (x_2 > 0))
 (0 ≤ IntKind.i64.wrap (x_2 - 1) ∧ IntKind.i64.wrap (x_2 - 1) < (↑n_1 : Int)) ∧
 ∃ (f_2 : Nat → Int),
 ∃ (f_3 : Nat → Int),
 ∃ (x_8 : ByteArray),
 ∃ (x_9 : Int),
 ∃ (x_10 : Bool),
 ∃ (x_11 : Bool),
 ∃ (p_3 : Option Addr),
 ∃ (n_4 : Nat),
 ∃ (c_3 : Nat),
 ∃ (x_12 : ByteArray),
 gimp (decide (x_2 > 0))
 (∀ (W : World),
 Loc w.heap.size
 [Blk.mk n 33 [Value.slice ap an ac, Value.slice dp dn dc] 0] w'_1
 W →
 AtL W b (o + (IntKind.i64.wrap (x_2 - 1)).toNat * 54)
 (arrI IntKind.u8 f_2 32 0 ++ (arrI IntKind.u8 f_3 16 0 ++ [Value.string x_8, Value.int IntKind.i64 x_9, Value.bool x_10,
 Value.bool x_11, Value.slice p_3 n_4 c_3, Value.string x_12]))) ∧
 ∀ (W : World),
 Loc w.heap.size
 [Blk.mk n 33 [Value.slice ap an ac, Value.slice dp dn dc] 0] w'_1
 W →
 bsp (decide (x_2 > 0))
 (CallsS Tryz.prog 58
 #[Value.agg
 (arrI IntKind.u8 f 32 0 ++ (arrI IntKind.u8 f_1 16 0 ++ [Value.string x_3, Value.int IntKind.i64 x_4, Value.bool x_5,
 Value.bool x_6, Value.slice p_2 n_3 c_2, Value.string x_7])).toArray,
 Value.agg
 (arrI IntKind.u8 f_2 32 0 ++ (arrI IntKind.u8 f_3 16 0 ++ [Value.string x_8, Value.int IntKind.i64 x_9, Value.bool x_10,
 Value.bool x_11, Value.slice p_3 n_4 c_3, Value.string x_12])).toArray]
 W fun (e : Ending) (w'_2 : World) =>
 ∃ (x_13 : Bool),
 e = Ending.returned (Value.bool x_13) ∧
 KeptL [n] W w'_2 ∧
 bsp (true && x_13)
 (I_1 [Value.int IntKind.i64 (IntKind.i64.wrap (x_2 - 1))]
 w'_2 ∧
 m_1 [Value.int IntKind.i64 (IntKind.i64.wrap (x_2 - 1))]
 w'_2 <
 m_1 [Value.int IntKind.i64 x_2] w'_1)
 (∀ (n_5 : Nat),
 (0 ≤ x_2 ∧ x_2 ≤ (↑c : Int)) ∧
 ∀ (W : World),
 Loc w.heap.size
 [Blk.mk n 33 [Value.slice ap an ac, Value.slice dp dn dc]
 0,
 Blk.mk n_5 50 [] 2]
 w'_2 W →
 ∃ (base : Nat),
 ∃ (xs : List Value),
 ∃ (news : List Value),
 W.ownsRow base 50 54
 (Value.slice (some (Addr.mk n_5 0 none)) 0 0) 0 xs ∧
 news.length = x_2.toNat * 54 ∧
 SrcP W p news ∧
 0 + x_2.toNat ≤ 9223372036854775807 ∧
 (0 + x_2.toNat) * 120 ≤ 140737488355328 ∧
 base ≤ W.heap.size ∧
 ∀ (p' : Option Addr) (c' : Nat) (w'_3 : World),
 w'_3.ownsRow base 50 54
 (Value.slice p' (0 + x_2.toNat) c')
 (0 + x_2.toNat) (xs ++ news) →
 W.grownBy w'_3
 (Value.slice (some (Addr.mk n_5 0 none)) 0
 0).ownBlock →
 (0 + x_2.toNat ≤ 0 →
 p' = some (Addr.mk n_5 0 none) ∧ c' = 0) →
 KeptL [n] W w'_3 ∧
 nn true dp fun (b o : Nat) =>
 (0 ≤ x ∧ x < (↑dn : Int)) ∧
 ∃ (f : Nat → Int),
 ∃ (f_4 : Nat → Int),
 ∃ (x_14 : ByteArray),
 ∃ (x_15 : Int),
 ∃ (x_16 : Bool),
 ∃ (x_17 : Bool),
 ∃ (p_4 : Option Addr),
 ∃ (n_6 : Nat),
 ∃ (c_4 : Nat),
 ∃ (x_18 : ByteArray),
 AtL w'_3 b (o + x.toNat * 54)
 (arrI IntKind.u8 f 32 0 ++ (arrI IntKind.u8 f_4 16 0 ++ [Value.string x_14,
 Value.int IntKind.i64 x_15,
 Value.bool x_16,
 Value.bool x_17,
 Value.slice p_4 n_6 c_4,
 Value.string x_18])) ∧
 ∀ (n_7 : Nat) (W : World),
 Loc w.heap.size
 [Blk.mk n 33
 [Value.slice ap an ac,
 Value.slice dp dn dc]
 0,
 Blk.mk n_7 50
 (arrI IntKind.u8 f 32 0 ++ (arrI IntKind.u8 f_4 16 0 ++ [Value.string x_14,
 Value.int IntKind.i64
 x_15,
 Value.bool x_16,
 Value.bool x_17,
 Value.slice p_4 n_6 c_4,
 Value.string x_18]))
 2]
 w'_3 W →
 ∃ (base : Nat),
 ∃ (xs : List Value),
 W.ownsRow base 50 54
 (Value.slice p'
 (0 + x_2.toNat) c')
 (0 + x_2.toNat) xs ∧
 0 + x_2.toNat + 1 ≤
 9223372036854775807 ∧
 (0 + x_2.toNat + 1) *
 120 ≤
 140737488355328 ∧
 base ≤ W.heap.size ∧
 ∀ (p'_1 : Option Addr)
 (c'_1 : Nat)
 (w'_4 : World),
 w'_4.ownsRow base 50
 54
 (Value.slice p'_1
 (0 + x_2.toNat + 1)
 c'_1)
 (0 + x_2.toNat + 1)
 (xs ++
 (arrI IntKind.u8 f 32 0 ++ (arrI IntKind.u8 f_4 16 0 ++ [Value.string x_14,
 Value.int
 IntKind.i64 x_15,
 Value.bool x_16,
 Value.bool x_17,
 Value.slice p_4
 n_6 c_4,
 Value.string
 x_18]))) →
 W.grownBy w'_4
 (Value.slice p'
 (0 + x_2.toNat)
 c').ownBlock →
 (0 + x_2.toNat + 1 ≤
 c' →
 p'_1 = p' ∧
 c'_1 = c') →
 KeptL [n] W w'_4 ∧
 (0 ≤ x_2 ∧
 x_2 ≤
 (↑n_1 : Int)) ∧
 ∃ (base : Nat),
 ∃ (xs :
 List Value),
 ∃ (news :
 List Value),
 w'_4.ownsRow
 base 50 54
 (Value.slice
 p'_1
 (0 +
 x_2.toNat +
 1)
 c'_1)
 (0 +
 x_2.toNat +
 1)
 xs ∧
 news.length =
 (n_1 -
 x_2.toNat) *
 54 ∧
 SrcP w'_4
 (slA p c
 x_2.toNat
 54)
 news ∧
 0 +
 x_2.toNat +
 1 +
 (n_1 -
 x_2.toNat) ≤
 9223372036854775807 ∧
 (0 +
 x_2.toNat +
 1 +
 (n_1 -
 x_2.toNat)) *
 120 ≤
 140737488355328 ∧
 base ≤
 w'_4.heap.size ∧
 ∀
 (p' :
 Option
 Addr)
 (c' :
 Nat)
 (w'_5 :
 World),
 w'_5.ownsRow
 base
 50 54
 (Value.slice
 p'
 (0 +
 x_2.toNat +
 1 +
 (n_1 -
 x_2.toNat))
 c')
 (0 +
 x_2.toNat +
 1 +
 (n_1 -
 x_2.toNat))
 (xs ++
 news) →
 w'_4.grownBy
 w'_5
 (Value.slice
 p'_1
 (0 +
 x_2.toNat +
 1)
 c'_1).ownBlock →
 (0 +
 x_2.toNat +
 1 +
 (n_1 -
 x_2.toNat) ≤
 c'_1 →
 p' =
 p'_1 ∧
 c' =
 c'_1) →
 KeptL
 [n]
 w'_4
 w'_5 ∧
 I
 [Value.int
 IntKind.i64
 (IntKind.i64.wrap
 (x +
 1)),
 Value.slice
 p'
 (0 +
 x_2.toNat +
 1 +
 (n_1 -
 x_2.toNat))
 c']
 w'_5 ∧
 m
 [Value.int
 IntKind.i64
 (IntKind.i64.wrap
 (x +
 1)),
 Value.slice
 p'
 (0 +
 x_2.toNat +
 1 +
 (n_1 -
 x_2.toNat))
 c']
 w'_5 <
 m
 [Value.int
 IntKind.i64
 x,
 Value.slice
 p
 n_1
 c]
 w'))
 (KeptL [n] W W ∧
 ∀ (n_5 : Nat),
 (0 ≤ x_2 ∧ x_2 ≤ (↑c : Int)) ∧
 ∀ (W_1 : World),
 Loc w.heap.size
 [Blk.mk n 33 [Value.slice ap an ac, Value.slice dp dn dc] 0,
 Blk.mk n_5 50 [] 2]
 W W_1 →
 ∃ (base : Nat),
 ∃ (xs : List Value),
 ∃ (news : List Value),
 W_1.ownsRow base 50 54
 (Value.slice (some (Addr.mk n_5 0 none)) 0 0) 0 xs ∧
 news.length = x_2.toNat * 54 ∧
 SrcP W_1 p news ∧
 0 + x_2.toNat ≤ 9223372036854775807 ∧
 (0 + x_2.toNat) * 120 ≤ 140737488355328 ∧
 base ≤ W_1.heap.size ∧
 ∀ (p' : Option Addr) (c' : Nat) (w'_2 : World),
 w'_2.ownsRow base 50 54
 (Value.slice p' (0 + x_2.toNat) c')
 (0 + x_2.toNat) (xs ++ news) →
 W_1.grownBy w'_2
 (Value.slice (some (Addr.mk n_5 0 none)) 0
 0).ownBlock →
 (0 + x_2.toNat ≤ 0 →
 p' = some (Addr.mk n_5 0 none) ∧ c' = 0) →
 KeptL [n] W_1 w'_2 ∧
 nn true dp fun (b o : Nat) =>
 (0 ≤ x ∧ x < (↑dn : Int)) ∧
 ∃ (f : Nat → Int),
 ∃ (f_4 : Nat → Int),
 ∃ (x_13 : ByteArray),
 ∃ (x_14 : Int),
 ∃ (x_15 : Bool),
 ∃ (x_16 : Bool),
 ∃ (p_4 : Option Addr),
 ∃ (n_6 : Nat),
 ∃ (c_4 : Nat),
 ∃ (x_17 : ByteArray),
 AtL w'_2 b (o + x.toNat * 54)
 (arrI IntKind.u8 f 32 0 ++ (arrI IntKind.u8 f_4 16 0 ++ [Value.string x_13,
 Value.int IntKind.i64 x_14,
 Value.bool x_15, Value.bool x_16,
 Value.slice p_4 n_6 c_4,
 Value.string x_17])) ∧
 ∀ (n_7 : Nat) (W : World),
 Loc w.heap.size
 [Blk.mk n 33
 [Value.slice ap an ac,
 Value.slice dp dn dc]
 0,
 Blk.mk n_7 50
 (arrI IntKind.u8 f 32 0 ++ (arrI IntKind.u8 f_4 16 0 ++ [Value.string x_13,
 Value.int IntKind.i64 x_14,
 Value.bool x_15,
 Value.bool x_16,
 Value.slice p_4 n_6 c_4,
 Value.string x_17]))
 2]
 w'_2 W →
 ∃ (base : Nat),
 ∃ (xs : List Value),
 W.ownsRow base 50 54
 (Value.slice p'
 (0 + x_2.toNat) c')
 (0 + x_2.toNat) xs ∧
 0 + x_2.toNat + 1 ≤
 9223372036854775807 ∧
 (0 + x_2.toNat + 1) * 120 ≤
 140737488355328 ∧
 base ≤ W.heap.size ∧
 ∀ (p'_1 : Option Addr)
 (c'_1 : Nat)
 (w'_3 : World),
 w'_3.ownsRow base 50 54
 (Value.slice p'_1
 (0 + x_2.toNat + 1)
 c'_1)
 (0 + x_2.toNat + 1)
 (xs ++
 (arrI IntKind.u8 f 32 0 ++ (arrI IntKind.u8 f_4 16 0 ++ [Value.string x_13,
 Value.int IntKind.i64
 x_14,
 Value.bool x_15,
 Value.bool x_16,
 Value.slice p_4 n_6
 c_4,
 Value.string x_17]))) →
 W.grownBy w'_3
 (Value.slice p'
 (0 + x_2.toNat)
 c').ownBlock →
 (0 + x_2.toNat + 1 ≤
 c' →
 p'_1 = p' ∧
 c'_1 = c') →
 KeptL [n] W w'_3 ∧
 (0 ≤ x_2 ∧
 x_2 ≤
 (↑n_1 : Int)) ∧
 ∃ (base : Nat),
 ∃ (xs : List Value),
 ∃ (news :
 List Value),
 w'_3.ownsRow base
 50 54
 (Value.slice
 p'_1
 (0 +
 x_2.toNat +
 1)
 c'_1)
 (0 + x_2.toNat +
 1)
 xs ∧
 news.length =
 (n_1 -
 x_2.toNat) *
 54 ∧
 SrcP w'_3
 (slA p c
 x_2.toNat 54)
 news ∧
 0 + x_2.toNat +
 1 +
 (n_1 -
 x_2.toNat) ≤
 9223372036854775807 ∧
 (0 +
 x_2.toNat +
 1 +
 (n_1 -
 x_2.toNat)) *
 120 ≤
 140737488355328 ∧
 base ≤
 w'_3.heap.size ∧
 ∀
 (p' :
 Option
 Addr)
 (c' : Nat)
 (w'_4 :
 World),
 w'_4.ownsRow
 base 50
 54
 (Value.slice
 p'
 (0 +
 x_2.toNat +
 1 +
 (n_1 -
 x_2.toNat))
 c')
 (0 +
 x_2.toNat +
 1 +
 (n_1 -
 x_2.toNat))
 (xs ++
 news) →
 w'_3.grownBy
 w'_4
 (Value.slice
 p'_1
 (0 +
 x_2.toNat +
 1)
 c'_1).ownBlock →
 (0 +
 x_2.toNat +
 1 +
 (n_1 -
 x_2.toNat) ≤
 c'_1 →
 p' =
 p'_1 ∧
 c' =
 c'_1) →
 KeptL
 [n]
 w'_3
 w'_4 ∧
 I
 [Value.int
 IntKind.i64
 (IntKind.i64.wrap
 (x +
 1)),
 Value.slice
 p'
 (0 +
 x_2.toNat +
 1 +
 (n_1 -
 x_2.toNat))
 c']
 w'_4 ∧
 m
 [Value.int
 IntKind.i64
 (IntKind.i64.wrap
 (x +
 1)),
 Value.slice
 p'
 (0 +
 x_2.toNat +
 1 +
 (n_1 -
 x_2.toNat))
 c']
 w'_4 <
 m
 [Value.int
 IntKind.i64
 x,
 Value.slice
 p
 n_1
 c]
 w')))
 (R (Ending.returned (Value.slice p n_1 c)) w')
theorem vc_xvers (ap : Option Addr) (an : Nat) (ac : Nat) (dp : Option Addr) (dn : Nat) (dc : Nat) (s : ByteArray) (w : World) (R : Ending → World → Prop) (h : VC_xvers ap an ac dp dn dc s w R) : Calls Tryz.prog 34 ([Value.agg
    #[Value.slice ap an ac, Value.slice dp dn dc],
  Value.string s] : List Value).toArray w R := by
  have e : execR2 { P := Tryz.prog, loops := [(3, [(6, Ck.int IntKind.i64), (5, Ck.slice)]), (7, [(7, Ck.int IntKind.i64)])], pur := pur1, tails := [(7, 13)], joins := [], boxes := [] } Tryz.f34.results.toList R (Tryz.f34.body.getD .skip) (initF [Value.agg
    #[Value.slice ap an ac, Value.slice dp dn dc],
  Value.string
    s] (Tryz.f34.ntmps - ([Value.agg #[Value.slice ap an ac, Value.slice dp dn dc],
  Value.string s] : List Value).length)) w = VC_xvers ap an ac dp dn dc s w R := by kernel_rfl
  have hb : Tryz.f34.body = some (Tryz.f34.body.getD .skip) := by kernel_rfl
  exact calls_of_exec2' (P := Tryz.prog) (fn := Tryz.f34) (c := Tryz.f34.body.getD .skip) (args := [Value.agg
    #[Value.slice ap an ac, Value.slice dp dn dc],
  Value.string s]) (w := w) (R := R) pur1_ok Tryz.func34 hb e h

def VC_xcur (ap : Option Addr) (an : Nat) (ac : Nat) (dp : Option Addr) (dn : Nat) (dc : Nat) (s : ByteArray) (w : World) (R : Ending → World → Prop) : Prop :=
 ∀ (n n_1 : Nat) (W : World),
 Loc w.heap.size
 [Blk.mk n_1 50
 [Value.int IntKind.u8 0, Value.int IntKind.u8 0, Value.int IntKind.u8 0, Value.int IntKind.u8 0,
 Value.int IntKind.u8 0, Value.int IntKind.u8 0, Value.int IntKind.u8 0, Value.int IntKind.u8 0,
 Value.int IntKind.u8 0, Value.int IntKind.u8 0, Value.int IntKind.u8 0, Value.int IntKind.u8 0,
 Value.int IntKind.u8 0, Value.int IntKind.u8 0, Value.int IntKind.u8 0, Value.int IntKind.u8 0,
 Value.int IntKind.u8 0, Value.int IntKind.u8 0, Value.int IntKind.u8 0, Value.int IntKind.u8 0,
 Value.int IntKind.u8 0, Value.int IntKind.u8 0, Value.int IntKind.u8 0, Value.int IntKind.u8 0,
 Value.int IntKind.u8 0, Value.int IntKind.u8 0, Value.int IntKind.u8 0, Value.int IntKind.u8 0,
 Value.int IntKind.u8 0, Value.int IntKind.u8 0, Value.int IntKind.u8 0, Value.int IntKind.u8 0,
 Value.int IntKind.u8 0, Value.int IntKind.u8 0, Value.int IntKind.u8 0, Value.int IntKind.u8 0,
 Value.int IntKind.u8 0, Value.int IntKind.u8 0, Value.int IntKind.u8 0, Value.int IntKind.u8 0,
 Value.int IntKind.u8 0, Value.int IntKind.u8 0, Value.int IntKind.u8 0, Value.int IntKind.u8 0,
 Value.int IntKind.u8 0, Value.int IntKind.u8 0, Value.int IntKind.u8 0, Value.int IntKind.u8 0,
 Value.string (ByteArray.mk #[]), Value.int IntKind.i64 0, Value.bool false, Value.bool false,
 Value.slice none 0 0, Value.string (ByteArray.mk #[])]
 2,
 Blk.mk n 33 [Value.slice ap an ac, Value.slice dp dn dc] 2]
 w W →
 CallsS Tryz.prog 34 #[Value.agg #[Value.slice ap an ac, Value.slice dp dn dc], Value.string s] W
 fun (e : Ending) (w' : World) =>
 ∃ (p : Option Addr),
 ∃ (n_2 : Nat),
 ∃ (c : Nat),
 e = Ending.returned (Value.slice p n_2 c) ∧
 KeptL [n_1, n] W w' ∧
 nn (!(↑n_2 : Int) == 0) p fun (b o : Nat) =>
 gimp (!(↑n_2 : Int) == 0) ((0 : Int) ≤ 0 ∧ 0 < (↑n_2 : Int)) ∧
 ∃ (x : Bool),
 gimp (!(↑n_2 : Int) == 0) (w'.cell? (Addr.mk b (o + 50) none) = some (Value.bool x)) ∧
 bsp ((↑n_2 : Int) == 0 || x)
 (∀ (W : World),
 Loc w.heap.size
 [Blk.mk n_1 50
 [Value.int IntKind.u8 0, Value.int IntKind.u8 0, Value.int IntKind.u8 0, Value.int IntKind.u8 0,
 Value.int IntKind.u8 0, Value.int IntKind.u8 0, Value.int IntKind.u8 0, Value.int IntKind.u8 0,
 Value.int IntKind.u8 0, Value.int IntKind.u8 0, Value.int IntKind.u8 0, Value.int IntKind.u8 0,
 Value.int IntKind.u8 0, Value.int IntKind.u8 0, Value.int IntKind.u8 0, Value.int IntKind.u8 0,
 Value.int IntKind.u8 0, Value.int IntKind.u8 0, Value.int IntKind.u8 0, Value.int IntKind.u8 0,
 Value.int IntKind.u8 0, Value.int IntKind.u8 0, Value.int IntKind.u8 0, Value.int IntKind.u8 0,
 Value.int IntKind.u8 0, Value.int IntKind.u8 0, Value.int IntKind.u8 0, Value.int IntKind.u8 0,
 Value.int IntKind.u8 0, Value.int IntKind.u8 0, Value.int IntKind.u8 0, Value.int IntKind.u8 0,
 Value.int IntKind.u8 0, Value.int IntKind.u8 0, Value.int IntKind.u8 0, Value.int IntKind.u8 0,
 Value.int IntKind.u8 0, Value.int IntKind.u8 0, Value.int IntKind.u8 0, Value.int IntKind.u8 0,
 Value.int IntKind.u8 0, Value.int IntKind.u8 0, Value.int IntKind.u8 0, Value.int IntKind.u8 0,
 Value.int IntKind.u8 0, Value.int IntKind.u8 0, Value.int IntKind.u8 0, Value.int IntKind.u8 0,
 Value.string (ByteArray.mk #[]), Value.int IntKind.i64 0, Value.bool false, Value.bool false,
 Value.slice none 0 0, Value.string (ByteArray.mk #[])]
 (wrM 0),
 Blk.mk n 33 [Value.slice ap an ac, Value.slice dp dn dc] 0]
 w' W →
 R
 (Ending.returned
 (Value.tuple
 #[Value.agg
 #[Value.int IntKind.u8 0, Value.int IntKind.u8 0, Value.int IntKind.u8 0, Value.int IntKind.u8 0,
 Value.int IntKind.u8 0, Value.int IntKind.u8 0, Value.int IntKind.u8 0, Value.int IntKind.u8 0,
 Value.int IntKind.u8 0, Value.int IntKind.u8 0, Value.int IntKind.u8 0, Value.int IntKind.u8 0,
 Value.int IntKind.u8 0, Value.int IntKind.u8 0, Value.int IntKind.u8 0, Value.int IntKind.u8 0,
 Value.int IntKind.u8 0, Value.int IntKind.u8 0, Value.int IntKind.u8 0, Value.int IntKind.u8 0,
 Value.int IntKind.u8 0, Value.int IntKind.u8 0, Value.int IntKind.u8 0, Value.int IntKind.u8 0,
 Value.int IntKind.u8 0, Value.int IntKind.u8 0, Value.int IntKind.u8 0, Value.int IntKind.u8 0,
 Value.int IntKind.u8 0, Value.int IntKind.u8 0, Value.int IntKind.u8 0, Value.int IntKind.u8 0,
 Value.int IntKind.u8 0, Value.int IntKind.u8 0, Value.int IntKind.u8 0, Value.int IntKind.u8 0,
 Value.int IntKind.u8 0, Value.int IntKind.u8 0, Value.int IntKind.u8 0, Value.int IntKind.u8 0,
 Value.int IntKind.u8 0, Value.int IntKind.u8 0, Value.int IntKind.u8 0, Value.int IntKind.u8 0,
 Value.int IntKind.u8 0, Value.int IntKind.u8 0, Value.int IntKind.u8 0, Value.int IntKind.u8 0,
 Value.string (ByteArray.mk #[]), Value.int IntKind.i64 0, Value.bool false, Value.bool false,
 Value.slice none 0 0, Value.string (ByteArray.mk #[])],
 Value.bool false]))
 W)
 (nn true p fun (b o : Nat) =>
 ((0 : Int) ≤ 0 ∧ 0 < (↑n_2 : Int)) ∧
 ∃ (f : Nat → Int),
 ∃ (f_1 : Nat → Int),
 ∃ (x : ByteArray),
 ∃ (x_1 : Int),
 ∃ (x_2 : Bool),
 ∃ (x_3 : Bool),
 ∃ (p : Option Addr),
 ∃ (n_3 : Nat),
 ∃ (c : Nat),
 ∃ (x_4 : ByteArray),
 AtL w' b o
 (arrI IntKind.u8 f 32 0 ++ (arrI IntKind.u8 f_1 16 0 ++ [Value.string x, Value.int IntKind.i64 x_1, Value.bool x_2, Value.bool x_3,
 Value.slice p n_3 c, Value.string x_4])) ∧
 ∀ (W : World),
 Loc w.heap.size
 [Blk.mk n_1 50
 (arrI IntKind.u8 f 32 0 ++ (arrI IntKind.u8 f_1 16 0 ++ [Value.string x, Value.int IntKind.i64 x_1,
 Value.bool x_2, Value.bool x_3, Value.slice p n_3 c, Value.string x_4]))
 (wrM 0),
 Blk.mk n 33 [Value.slice ap an ac, Value.slice dp dn dc] 0]
 w' W →
 R
 (Ending.returned
 (Value.tuple
 #[Value.agg
 (arrI IntKind.u8 f 32 0 ++ (arrI IntKind.u8 f_1 16 0 ++ [Value.string x,
 Value.int IntKind.i64 x_1, Value.bool x_2, Value.bool x_3, Value.slice p n_3 c,
 Value.string x_4])).toArray,
 Value.bool true]))
 W)
theorem vc_xcur (ap : Option Addr) (an : Nat) (ac : Nat) (dp : Option Addr) (dn : Nat) (dc : Nat) (s : ByteArray) (w : World) (R : Ending → World → Prop) (h : VC_xcur ap an ac dp dn dc s w R) : Calls Tryz.prog 30 ([Value.agg
    #[Value.slice ap an ac, Value.slice dp dn dc],
  Value.string s] : List Value).toArray w R := by
  have e : execR2 { P := Tryz.prog, loops := [], pur := pur1, tails := [], joins := [], boxes := [] } Tryz.f30.results.toList R (Tryz.f30.body.getD .skip) (initF [Value.agg
    #[Value.slice ap an ac, Value.slice dp dn dc],
  Value.string
    s] (Tryz.f30.ntmps - ([Value.agg #[Value.slice ap an ac, Value.slice dp dn dc],
  Value.string s] : List Value).length)) w = VC_xcur ap an ac dp dn dc s w R := by kernel_rfl
  have hb : Tryz.f30.body = some (Tryz.f30.body.getD .skip) := by kernel_rfl
  exact calls_of_exec2' (P := Tryz.prog) (fn := Tryz.f30) (c := Tryz.f30.body.getD .skip) (args := [Value.agg
    #[Value.slice ap an ac, Value.slice dp dn dc],
  Value.string s]) (w := w) (R := R) pur1_ok Tryz.func30 hb e h

def VC_xever (ap : Option Addr) (an : Nat) (ac : Nat) (dp : Option Addr) (dn : Nat) (dc : Nat) (s : ByteArray) (a : Nat → Int) (w : World) (R : Ending → World → Prop) : Prop :=
 ∀ (n n_1 : Nat) (W : World),
 Loc w.heap.size
 [Blk.mk n_1 23
 (arrI IntKind.u8 a 16 0)
 2,
 Blk.mk n 33 [Value.slice ap an ac, Value.slice dp dn dc] 2]
 w W →
 ∃ (I : List Value → World → Prop),
 ∃ (m : List Value → World → Nat),
 I [Value.int IntKind.i64 0] W ∧
 ∀ (x : Int) (w' : World),
 I [Value.int IntKind.i64 x] w' →
 Loc w.heap.size
 [Blk.mk n_1 23
 (arrI IntKind.u8 a 16 0)
 0,
 Blk.mk n 33 [Value.slice ap an ac, Value.slice dp dn dc] 0]
 w' w' →
 bsp (decide (x < (↑dn : Int)))
 (∃ (I_1 : List Value → World → Prop),
 ∃ (m_1 : List Value → World → Nat),
 I_1 [Value.int IntKind.i64 0] w' ∧
 ∀ (x_1 : Int) (w'_1 : World),
 I_1 [Value.int IntKind.i64 x_1] w'_1 →
 Loc w.heap.size
 [Blk.mk n_1 23
 (arrI IntKind.u8 a 16 0)
 0,
 Blk.mk n 33 [Value.slice ap an ac, Value.slice dp dn dc] 0]
 w'_1 w'_1 →
 nn true dp fun (b o : Nat) =>
 (0 ≤ x ∧ x < (↑dn : Int)) ∧
 ∃ (p : Option Addr),
 ∃ (n_2 : Nat),
 ∃ (c : Nat),
 w'_1.cell? (Addr.mk b (o + x.toNat * 54 + 52) none) = some (Value.slice p n_2 c) ∧
 bsp (decide (x_1 < (↑n_2 : Int)))
 (nn true dp fun (b o : Nat) =>
 (0 ≤ x ∧ x < (↑dn : Int)) ∧
 ∃ (x_2 : ByteArray),
 (∀ (W : World),
 Loc w.heap.size
 [Blk.mk n_1 23
 (arrI IntKind.u8 a 16 0)
 0,
 Blk.mk n 33 [Value.slice ap an ac, Value.slice dp dn dc] 0]
 w'_1 W →
 W.cell? (Addr.mk b (o + x.toNat * 54 + 48) none) = some (Value.string x_2)) ∧
 ∃ (p : Option Addr),
 ∃ (n_3 : Nat),
 ∃ (c : Nat),
 gimp (x_2.toList == s.toList)
 (∀ (W : World),
 Loc w.heap.size
 [Blk.mk n_1 23
 (arrI IntKind.u8 a 16 0)
 0,
 Blk.mk n 33 [Value.slice ap an ac, Value.slice dp dn dc] 0]
 w'_1 W →
 W.cell? (Addr.mk n (0 + 1) none) = some (Value.slice p n_3 c)) ∧
 nn (x_2.toList == s.toList) p fun (b o : Nat) =>
 gimp (x_2.toList == s.toList) (0 ≤ x ∧ x < (↑n_3 : Int)) ∧
 ∃ (p : Option Addr),
 ∃ (n_4 : Nat),
 ∃ (c : Nat),
 gimp (x_2.toList == s.toList)
 (∀ (W : World),
 Loc w.heap.size
 [Blk.mk n_1 23
 (arrI IntKind.u8 a 16 0)
 0,
 Blk.mk n 33 [Value.slice ap an ac, Value.slice dp dn dc] 0]
 w'_1 W →
 W.cell? (Addr.mk b (o + x.toNat * 54 + 52) none) = some (Value.slice p n_4 c)) ∧
 nn (x_2.toList == s.toList) p fun (b o : Nat) =>
 gimp (x_2.toList == s.toList) (0 ≤ x_1 ∧ x_1 < (↑n_4 : Int)) ∧
 ∃ (f : Nat → Int),
 gimp (x_2.toList == s.toList)
 (∀ (W : World),
 Loc w.heap.size
 [Blk.mk n_1 23
 (arrI IntKind.u8 a 16 0)
 0,
 Blk.mk n 33 [Value.slice ap an ac, Value.slice dp dn dc] 0]
 w'_1 W →
 AtL W b (o + x_1.toNat * 16)
 (arrI IntKind.u8 f 16 0)) ∧
 ∃ (r : Bool),
 gimp (x_2.toList == s.toList)
 (EqP Tryz.prog 23
 (Value.agg
 (arrI IntKind.u8 f 16 0).toArray)
 (Value.agg
 (arrI IntKind.u8 a 16 0).toArray)
 r) ∧
 bsp (x_2.toList == s.toList && r)
 (∀ (W : World),
 Loc w.heap.size
 [Blk.mk n_1 23
 (arrI IntKind.u8 a 16 0)
 0,
 Blk.mk n 33 [Value.slice ap an ac, Value.slice dp dn dc] 0]
 w'_1 W →
 R (Ending.returned (Value.bool true)) W)
 (∀ (W : World),
 Loc w.heap.size
 [Blk.mk n_1 23
 (arrI IntKind.u8 a 16 0)
 0,
 Blk.mk n 33 [Value.slice ap an ac, Value.slice dp dn dc] 0]
 w'_1 W →
 I_1 [Value.int IntKind.i64 (IntKind.i64.wrap (x_1 + 1))] W ∧
 m_1 [Value.int IntKind.i64 (IntKind.i64.wrap (x_1 + 1))] W <
 m_1 [Value.int IntKind.i64 x_1] w'_1))
 (I [Value.int IntKind.i64 (IntKind.i64.wrap (x + 1))] w'_1 ∧
 m [Value.int IntKind.i64 (IntKind.i64.wrap (x + 1))] w'_1 < m [Value.int IntKind.i64 x] w'))
 (R (Ending.returned (Value.bool false)) w')
theorem vc_xever (ap : Option Addr) (an : Nat) (ac : Nat) (dp : Option Addr) (dn : Nat) (dc : Nat) (s : ByteArray) (a : Nat → Int) (w : World) (R : Ending → World → Prop) (h : VC_xever ap an ac dp dn dc s a w R) : Calls Tryz.prog 21 ([Value.agg
    #[Value.slice ap an ac, Value.slice dp dn dc],
  Value.string s, Value.agg (arrI IntKind.u8 a 16 0).toArray] : List Value).toArray w R := by
  have e : execR2 { P := Tryz.prog, loops := [(2, [(7, Ck.int IntKind.i64)]), (5, [(8, Ck.int IntKind.i64)])], pur := pur1, tails := [], joins := [], boxes := [] } Tryz.f21.results.toList R (Tryz.f21.body.getD .skip) (initF [Value.agg
    #[Value.slice ap an ac, Value.slice dp dn dc],
  Value.string s,
  Value.agg
    (arrI IntKind.u8 a 16
        0).toArray] (Tryz.f21.ntmps - ([Value.agg #[Value.slice ap an ac, Value.slice dp dn dc], Value.string s,
  Value.agg
    (arrI IntKind.u8 a 16 0).toArray] : List Value).length)) w = VC_xever ap an ac dp dn dc s a w R := by kernel_rfl
  have hb : Tryz.f21.body = some (Tryz.f21.body.getD .skip) := by kernel_rfl
  exact calls_of_exec2' (P := Tryz.prog) (fn := Tryz.f21) (c := Tryz.f21.body.getD .skip) (args := [Value.agg
    #[Value.slice ap an ac, Value.slice dp dn dc],
  Value.string s, Value.agg (arrI IntKind.u8 a 16 0).toArray]) (w := w) (R := R) pur1_ok Tryz.func21 hb e h

end Go.Proofs.YtkkfnlehlkiejaaGreatDoor

/- Chapter 21: the contracts of the reference's less, Versions, Current; what is in force. Lists that are not too long. -/
namespace Go.Proofs.YtkkfnlehlkiejaaGreatDoor
open Go.RowKit Go.Maps

/-! ### Plain -/
def verF (ds : List DX) (s : ByteArray) : List DX := ds.filter fun y => decide (y.d.g = s)
theorem verF_snoc {L : List DX} {i : Nat} {y : DX} (h : L[i]? = some y) (s : ByteArray) : verF (L.take (i + 1)) s = verF (L.take i) s ++ (if y.d.g = s then [y] else []) := by
  unfold verF
  rw [take_snoc h, List.filter_append, List.filter_cons]
  by_cases hd : y.d.g = s
  · rw [if_pos (by simpa using hd), if_pos hd]; rfl
  · rw [if_neg (by simpa using hd), if_neg hd]; rfl
theorem ver_ins {out : List DX} {x : DX} {a : Nat} (hs : out.Pairwise fun x y => ¬ cfP y x < 0) (hi : ∀ (j : Nat) (y : DX), a ≤ j → out[j]? = some y → cfP x y < 0) (lo : ∀ y, 0 < a → out[a - 1]? = some y → ¬ cfP x y < 0) (ha : a ≤ out.length) :
    (out.take a ++ x :: out.drop a).Pairwise fun x y => ¬ cfP y x < 0 := by
  have hlow : ∀ y ∈ out.take a, ¬ cfP x y < 0 := fun y hy => by
    obtain ⟨j, hj⟩ := List.getElem?_of_mem hy
    rw [List.getElem?_take] at hj
    split at hj
    · rename_i hja
      have hlt : a - 1 < out.length := by omega
      have hz := lo out[a - 1] (by omega) (List.getElem?_eq_getElem hlt)
      rcases Nat.lt_or_ge j (a - 1) with h | h
      · have hjl : j < out.length := by omega
        rw [List.getElem?_eq_getElem hjl] at hj
        cases hj
        have h2 := List.pairwise_iff_getElem.1 hs j (a - 1) hjl hlt h
        intro h3
        have h4 := cfP_ord.anti out[a - 1] out[j]
        rcases Int.lt_or_eq_of_le (show cfP out[j] out[a - 1] ≤ 0 by omega) with h5 | h5
        · exact hz (cfP_ord.tlt _ _ _ h3 h5)
        · exact hz (cfP_ord.le _ _ _ h3 h5)
      · have : j = a - 1 := by omega
        subst this
        rw [List.getElem?_eq_getElem hlt] at hj
        cases hj
        exact hz
    · cases hj
  have hhi : ∀ y ∈ out.drop a, cfP x y < 0 := fun y hy => by
    obtain ⟨j, hj⟩ := List.getElem?_of_mem hy
    rw [List.getElem?_drop] at hj
    exact hi _ y (by omega) hj
  have hsp := hs
  rw [← List.take_append_drop a out, List.pairwise_append] at hsp
  rw [List.pairwise_append]
  refine ⟨hsp.1, List.pairwise_cons.2 ⟨fun y hy => ?_, hsp.2.1⟩, fun u hu v hv => ?_⟩
  · have h1 := hhi y hy
    have h2 := cfP_ord.anti x y
    omega
  · rcases List.mem_cons.1 hv with rfl | hv
    · exact hlow u hu
    · exact hsp.2.2 u hu v hv
theorem perm_uniq21 {α : Type} {R : α → α → Prop} : ∀ {l1 l2 : List α}, l1.Perm l2 → l1.Pairwise R → l2.Pairwise R → (∀ a ∈ l1, ∀ b ∈ l1, R a b → R b a → a = b) → l1 = l2
  | [], l2, hp, _, _, _ => (List.nil_perm.1 hp).symm
  | a :: r, [], hp, _, _, _ => by have := hp.length_eq; simp at this
  | a :: r, b :: s, hp, h1, h2, anti => by
    have hab : a = b := Classical.byContradiction fun hne => by
      have h3 : a ∈ s := by
        rcases List.mem_cons.1 (hp.subset List.mem_cons_self) with h | h
        · exact absurd h hne
        · exact h
      have h4 : b ∈ r := by
        rcases List.mem_cons.1 (hp.symm.subset List.mem_cons_self) with h | h
        · exact absurd h.symm hne
        · exact h
      exact hne (anti a List.mem_cons_self b (List.mem_cons_of_mem _ h4) ((List.pairwise_cons.1 h1).1 b h4) ((List.pairwise_cons.1 h2).1 a h3))
    subst hab
    rw [perm_uniq21 (List.Perm.cons_inv hp) (List.pairwise_cons.1 h1).2 (List.pairwise_cons.1 h2).2 fun x hx y hy => anti x (List.mem_cons_of_mem _ hx) y (List.mem_cons_of_mem _ hy)]
theorem u8_inj {x y : Int} (hx : 0 ≤ x ∧ x ≤ 255) (hy : 0 ≤ y ∧ y ≤ 255) (h : x.toNat.toUInt8 = y.toNat.toUInt8) : x = y := by
  have h1 : x.toNat.toUInt8.toNat = y.toNat.toUInt8.toNat := by rw [h]
  rw [UInt8.toNat_ofNat', UInt8.toNat_ofNat'] at h1
  omega
theorem idB_inj {f g : Nat → Int} (hf : BY f) (hg : BY g) (h : idB f = idB g) : idI f = idI g := by
  apply List.ext_getElem?
  intro j
  by_cases hj : j < 32
  · rw [idI_get f hj, idI_get g hj]
    have h1 := congrArg (fun z => z[j]?) h
    simp only [idB, List.getElem?_map, idI_get f hj, idI_get g hj, Option.map_some, Option.some.injEq] at h1
    rw [u8_inj (hf j) (hg j) h1]
  · rw [List.getElem?_eq_none (by simp [idI]; omega), List.getElem?_eq_none (by simp [idI]; omega)]
theorem cfd_zero {a b : Df} (ha : a.OK) (hb : b.OK) (h : cfd a b = 0) : idI a.id = idI b.id := by
  unfold cfd cfD at h
  split at h
  · exact absurd h (by assumption)
  unfold cfP at h
  split at h
  · exact absurd h (by assumption)
  exact idB_inj ha.id hb.id (cb_zero _ _ h)
theorem cfd_anti (a b : Df) : cfd a b = - cfd b a := cfD_ord.anti ⟨a, none, 0⟩ ⟨b, none, 0⟩
section
variable {l : List (List Int × DX)} {ds : List DX}
theorem pair_same {l : List (List Int × DX)} (h : l.Pairwise fun p q => p.1 ≠ q.1) {p q : List Int × DX} (hp : p ∈ l) (hq : q ∈ l) (he : p.1 = q.1) : p = q := by
  obtain ⟨i, hi, e1⟩ := List.getElem_of_mem hp
  obtain ⟨j, hj, e2⟩ := List.getElem_of_mem hq
  rcases Nat.lt_trichotomy i j with h1 | h1 | h1
  · have := List.pairwise_iff_getElem.1 h i j hi hj h1
    rw [e1, e2] at this
    exact absurd he this
  · subst h1; rw [← e1, ← e2]
  · have := List.pairwise_iff_getElem.1 h j i hj hi h1
    rw [e1, e2] at this
    exact absurd he.symm this
theorem DL.uniq (h : DL l ds) {a b : DX} (ha : a ∈ ds) (hb : b ∈ ds) (he : idI a.d.id = idI b.d.id) : a.d = b.d := by
  obtain ⟨i, hi⟩ := List.getElem?_of_mem ha
  obtain ⟨j, hj⟩ := List.getElem?_of_mem hb
  obtain ⟨x, h1, h2⟩ := h.at hi
  obtain ⟨y, h3, h4⟩ := h.at hj
  have := pair_same h.dis (List.mem_of_getElem? h1) (List.mem_of_getElem? h3) he
  have e : x = y := (Prod.mk.inj this).2
  rw [← h2, ← h4, e]
theorem DL.acc (h : DL l ds) (P : Df → Bool) : accL (fun x => P x.d) l = (ds.filter fun y => P y.d).map fun y => y.d := by
  have e1 : accL (fun x => P x.d) l = ((l.map (·.2)).map (fun x : DX => x.d)).filter P := by simp only [accL, List.filter_map, Function.comp_def]
  have e2 : (ds.filter fun y => P y.d).map (fun y => y.d) = (ds.map fun y => y.d).filter P := by rw [List.filter_map]; rfl
  rw [e1, e2, h.eq, List.map_map]; rfl
/-- What the program lists of a group is what the reference lists. -/
theorem DL.vers (h : DL l ds) (hok : ∀ y ∈ ds, y.d.OK) {s : ByteArray} {cs out : List DX} (hV : VerL l s cs) (hp : out.Perm (verF ds s)) (hs : out.Pairwise fun x y => ¬ cfP y x < 0) : cs.map (fun x => x.d) = out.map fun x => x.d := by
  have hacc := h.acc (fun d => decide (d.g = s))
  have hpc : (cs.map fun x => x.d).Perm ((verF ds s).map fun x => x.d) := by
    have := hV.1
    rw [hacc] at this
    exact this
  have hpo : (out.map fun x => x.d).Perm ((verF ds s).map fun x => x.d) := hp.map _
  have hgo : ∀ x ∈ out, x.d.g = s := fun x hx => by
    have := (List.mem_filter.1 (hp.subset hx)).2
    simpa using this
  refine perm_uniq21 (R := fun a b => ¬ cfd b a < 0) (hpc.trans hpo.symm) ?_ ?_ ?_
  · rw [List.pairwise_map]; exact hV.2
  · rw [List.pairwise_map]
    refine (List.pairwise_iff_getElem.2 fun i j hi hj hij => ?_)
    have h1 := List.pairwise_iff_getElem.1 hs i j hi hj hij
    have e1 := hgo out[i] (List.getElem_mem hi)
    have e2 := hgo out[j] (List.getElem_mem hj)
    show ¬ cfD out[j] out[i] < 0
    have e3 : cfG out[j] out[i] = 0 := by unfold cfG; rw [e1, e2]; exact cb_self _
    unfold cfD
    rw [if_neg (by rw [e3]; decide)]
    exact h1
  · intro a ha b hb h1 h2
    have ha := hpc.subset ha
    have hb := hpc.subset hb
    obtain ⟨x, hx, rfl⟩ := List.mem_map.1 ha
    obtain ⟨y, hy, rfl⟩ := List.mem_map.1 hb
    have hx := (List.mem_filter.1 hx).1
    have hy := (List.mem_filter.1 hy).1
    have h3 := cfd_anti x.d y.d
    exact h.uniq hx hy (cfd_zero (hok x hx) (hok y hy) (by omega))
end
/-- What is in force, of the definitions in the order in which they prevail. -/
def headD (L : List Df) : Option Df := match L with | d :: _ => if d.rm = true then none else some d | [] => none
theorem headC_d (cs : List DX) : (headC cs).map (fun x => x.d) = headD (cs.map fun x => x.d) := by
  cases cs with
  | nil => rfl
  | cons x r =>
    show (if x.d.rm = true then none else some x : Option DX).map _ = if x.d.rm = true then none else some x.d
    split <;> rfl
theorem headC_is (cs : List DX) : (headC cs).isSome = (headD (cs.map fun x => x.d)).isSome := by rw [← headC_d, Option.isSome_map]
theorem headC_get (cs : List DX) : ((headC cs).getD dxz).d = (headD (cs.map fun x => x.d)).getD dz := by
  rw [← headC_d]
  cases headC cs <;> rfl
theorem headC_mem {cs : List DX} {x : DX} (h : headC cs = some x) : x ∈ cs := by
  cases cs with
  | nil => cases h
  | cons y r =>
    have h : (if y.d.rm = true then none else some y) = some x := h
    split at h
    · cases h
    · cases h; simp

/-! ### The reference -/
theorem idB_bytes {w : World} {n : Nat} {f : Nat → Int} (hf : BY f) (h : AtL w n 0 (arrI .u8 f 32 0)) : (⟨(idB f).toArray⟩ : ByteArray).size = 32 ∧ BytesP w (some ⟨n, 0, none⟩) ⟨(idB f).toArray⟩ := by
  have hl : (idB f).length = 32 := by simp [idB, idI]
  refine ⟨by show (idB f).toArray.size = 32; simpa using hl, ⟨.inr ⟨n, 0, rfl, ?_⟩⟩⟩
  have : byteCells ⟨(idB f).toArray⟩ = arrI .u8 f 32 0 := by
    unfold byteCells
    show (idB f).map _ = _
    rw [arrI_idI, idB, List.map_map]
    refine List.map_congr_left fun x hx => ?_
    have := idI_bd hf x hx
    show Value.int .u8 ((x.toNat.toUInt8).toNat : Int) = .int .u8 x
    rw [UInt8.toNat_ofNat']
    congr 1
    omega
  rw [this]
  exact h.h
set_option maxRecDepth 100000 in
theorem xless_any (x y : DX) (w : World) (ox : x.d.OK) (oy : y.d.OK) :
    Calls Tryz.prog 58 #[dfV x, dfV y] w fun e w' => e = .returned (.bool (decide (cfP x y < 0))) ∧ K0 w w' := by
  refine vc_xless x.d.id x.d.au x.d.g x.d.v x.d.rm x.d.md x.p x.d.ms.length x.c x.d.tx y.d.id y.d.au y.d.g y.d.v y.d.rm y.d.md y.p y.d.ms.length y.c y.d.tx w _ (fun n1 n2 => bsp_intro (fun h => fun W hW => ?_) (fun h => fun W hW => ?_))
  · have h : x.d.v ≠ y.d.v := by simpa using h
    have e : decide (x.d.v > y.d.v) = decide (cfP x y < 0) := by
      unfold cfP cfV
      by_cases h1 : y.d.v < x.d.v
      · rw [if_pos h1]; simp [h1]
      · rw [if_neg h1, if_pos (show x.d.v < y.d.v by omega)]
        simp
        omega
    rw [e]
    exact ⟨rfl, hW.kk rfl⟩
  · have h : x.d.v = y.d.v := by simpa using h
    refine ⟨⟨(idB x.d.id).toArray⟩, idB_bytes ox.id (AtL_block (hW.cells 1 rfl) rfl), ⟨(idB y.d.id).toArray⟩, idB_bytes oy.id (AtL_block (hW.cells 0 rfl) rfl), ?_, hW.kk rfl⟩
    have e1 : ∀ l : List UInt8, (⟨l.toArray⟩ : ByteArray).toList = l := fun l => by rw [ByteArray.toList_eq]
    have e2 : cfP x y = Lib.compareBytes (idB x.d.id) (idB y.d.id) := by
      unfold cfP cfV
      rw [if_neg (by rw [h]; simp)]
    rw [e1, e1, bl_cb, e2]
theorem ins_flat21 (out : List DX) (y : DX) (a : Nat) : (out.flatMap dfC).take (a * 54) ++ dfC y ++ (out.flatMap dfC).drop (a * 54) = (out.take a ++ y :: out.drop a).flatMap dfC := by
  rw [take_flat dfC 54 out a (fun y _ => dfC_length y), drop_flat dfC 54 out a (fun y _ => dfC_length y)]
  simp
set_option maxRecDepth 100000 in
set_option maxHeartbeats 8000000 in
theorem xvers_any (A : List Au) (ap : Option Addr) (ac : Nat) (L : List DX) (p : Option Addr) (c : Nat) (s : ByteArray) (w : World) (hR : SR w L p c) (hl : L.length ≤ 1000000) :
    Calls Tryz.prog 34 #[.agg #[.slice ap A.length ac, .slice p L.length c], .string s] w fun e w' => (∃ (out : List DX) (q : Option Addr) (d : Nat), e = .returned (.slice q out.length d) ∧
      w'.ownsRow w.heap.size 50 54 (.slice q out.length d) out.length (out.flatMap dfC) ∧ out.Perm (verF L s) ∧ out.Pairwise fun x y => ¬ cfP y x < 0) ∧ K0 w w' := by
  refine vc_xvers ap A.length ac p L.length c s w _ (fun n1 W hW => ?_)
  have kW : K0 w W := hW.kk rfl
  have hw1 := block_lt (hW.cells 0 rfl)
  simp only at hw1
  have hRW := hR.k0 kW
  have one : ∀ (l : List DX) (u : Value), u ∈ l.flatMap dfC → u.oneCell' = true := fun l u hu => by obtain ⟨z, _, hz⟩ := List.mem_flatMap.1 hu; exact dfC_one z u hz
  refine ⟨fun vs w' => ∃ (i : Nat) (out : List DX) (q : Option Addr) (d : Nat), vs = [.int .i64 (i : Int), .slice q out.length d] ∧ i ≤ L.length ∧ out.Perm (verF (L.take i) s) ∧ (out.Pairwise fun x y => ¬ cfP y x < 0) ∧ out.length ≤ i ∧
      w'.ownsRow W.heap.size 50 54 (.slice q out.length d) out.length (out.flatMap dfC) ∧ K0 W w',
    fun vs _ => (match vs with | .int _ a :: _ => L.length - a.toNat | _ => 0), ⟨0, [], none, 0, rfl, by omega, .refl _, .nil, by simp, World.ownsRow_nil _ _ _ _, .refl _ _⟩, ?_⟩
  rintro x p0 m0 d0 w2 ⟨i, out, q, d, hv, hi, hperm, hpw, hoi, ho2, k2⟩ hL2
  simp only [List.cons.injEq, Value.int.injEq, Value.slice.injEq, true_and, and_true] at hv
  obtain ⟨rfl, rfl, rfl, rfl⟩ := hv
  have hb1 : w2.heap[n1]? = some (.cells #[.slice ap A.length ac, .slice p L.length c] 33 (0, 0)) := hL2.cells 0 rfl
  refine bsp_intro (fun hlt => ?_) (fun hge => ?_)
  rotate_left
  · have hi : i = L.length := by simp at hge; omega
    rw [hi, List.take_length] at hperm
    exact ⟨⟨out, p0, d0, rfl, own_base ho2 kW.size, hperm, hpw⟩, kW.trans k2⟩
  have hlt : i < L.length := by simp at hlt; omega
  obtain ⟨y, b, o, hy, hp, hat⟩ := (hRW.k0 k2).row.get hlt
  have hcg : w2.cell? ⟨b, o + i * 54 + 48, none⟩ = some (.string y.d.g) := hat.cell (j := 48) rfl
  have oy := (hR.ok y (List.mem_of_getElem? hy)).2.2
  refine nn_is hp ⟨⟨by omega, by omega⟩, y.d.g, by rw [Int.toNat_natCast]; exact hcg, bsp_intro (fun h => ?_) (fun h => ?_)⟩
  · rw [str_beq] at h
    have h : ¬ y.d.g = s := by simpa using h
    refine ⟨⟨i + 1, out, p0, d0, by rw [inc64 (by omega)], by omega, ?_, hpw, by omega, ho2, k2⟩, by rw [inc64 (by omega)]; simp only [Int.toNat_natCast]; omega⟩
    rw [verF_snoc hy, if_neg h, List.append_nil]; exact hperm
  rw [str_beq] at h
  have hgs : y.d.g = s := by simpa using h
  have hok : ∀ z ∈ out, z.d.OK := fun z hz => by
    have h1 := (List.mem_filter.1 (hperm.subset hz)).1
    exact (hR.ok z (List.mem_of_mem_take h1)).2.2
  have hle := own_le ho2
  refine ⟨fun vs w' => ∃ a : Nat, vs = [.int .i64 (a : Int)] ∧ a ≤ out.length ∧ (∀ (j : Nat) (z : DX), a ≤ j → out[j]? = some z → cfP y z < 0) ∧ K0 w2 w',
    fun vs _ => (match vs with | .int _ a :: _ => a.toNat | _ => 0), ⟨out.length, rfl, Nat.le_refl _, (fun j z h1 h2 => by have := (List.getElem?_eq_some_iff.1 h2).1; omega), .refl _ _⟩, ?_⟩
  rintro x2 w3 ⟨a, hv, ha, hhi, k3⟩ hL3
  simp only [List.cons.injEq, Value.int.injEq, true_and, and_true] at hv
  subst hv
  have ho3 := owns_kp ho2 k3 (fun _ _ h => h)
  have k03 := k2.trans k3
  have hRy : ∀ wx : World, K0 W wx → AtL wx b (o + i * 54) (dfC y) := fun wx k => by
    obtain ⟨b', o', hp', h'⟩ := (hRW.k0 k).row i y hy
    rw [hp] at hp'
    cases hp'
    exact h'
  simp only [Int.toNat_natCast, Nat.zero_add]
  rcases Nat.eq_zero_or_pos a with h0 | h0
  have hlo : ∀ z, 0 < a → out[a - 1]? = some z → ¬ cfP y z < 0 := fun z h => by omega
  rw [show decide ((a : Int) > 0) = false by rw [h0]; rfl]
  refine ⟨none, 0, 0, gimp_intro (fun h => by cases h), nn_off (fun b8 o8 => ⟨gimp_intro (fun h => by cases h), fun _ => 0, fun _ => 0, ⟨#[]⟩, 0, false, false, none, 0, 0, ⟨#[]⟩, gimp_intro (fun h => by cases h), nn_off (fun b9 o9 => ⟨gimp_intro (fun h => by cases h), fun _ => 0, fun _ => 0, ⟨#[]⟩, 0, false, false, none, 0, 0, ⟨#[]⟩, gimp_intro (fun h => by cases h), fun Wz hWz => bsp_intro (fun h => by cases h) (fun _ => ⟨.refl _ _, ?_⟩)⟩)⟩)⟩
  have kz : K0 w2 Wz := k3.trans (hWz.kk rfl)
  have hoz := owns_kp ho3 (hWz.kk rfl : K0 w3 Wz) (fun _ _ h => h)
  clear hWz b8 o8 b9 o9 ho3 hL3 k03 k3 h0
  rotate_left
  have ha1 : a - 1 < out.length := by omega
  obtain ⟨z, hz⟩ : ∃ z, out[a - 1]? = some z := ⟨_, List.getElem?_eq_getElem ha1⟩
  have eA : IntKind.i64.wrap ((a : Int) - 1) = ((a - 1 : Nat) : Int) := by rw [wr64 (by omega) (by omega)]; omega
  obtain ⟨g, hg, hatz⟩ := own_at dfC ho3 (fun y _ => dfC_length y) (by decide) hz
  rw [Nat.zero_add] at hatz
  rw [eA]
  refine ⟨p, L.length, c, gimp_intro fun _ W4 hW4 => cell_at (hW4.cells 0 rfl) rfl, nn_is hp ⟨gimp_intro fun _ => ⟨by omega, by omega⟩, y.d.id, y.d.au, y.d.g, y.d.v, y.d.rm, y.d.md, y.p, y.d.ms.length, y.c, y.d.tx, gimp_intro fun _ W4 hW4 => hRy W4 (k03.trans (hW4.kk rfl)), nn_is hg ⟨gimp_intro fun _ => ⟨by omega, by omega⟩, z.d.id, z.d.au, z.d.g, z.d.v, z.d.rm, z.d.md, z.p, z.d.ms.length, z.c, z.d.tx, gimp_intro fun _ W4 hW4 => (by rw [Int.toNat_natCast, Nat.zero_add]; exact hatz.k0 (hW4.kk rfl)), fun W4 hW4 => bsp_intro (fun _ => ?_) (fun h => by simp at h; omega)⟩⟩⟩
  have k4 : K0 w3 W4 := hW4.kk rfl
  refine ⟨(xless_any y z W4 oy (hok z (List.mem_of_getElem? hz))).mono fun e Wz ⟨he, kl⟩ => ⟨_, he, .of_k0 kl, bsp_intro (fun h => ?_) (fun h => ?_)⟩⟩
  · have hzy : cfP y z < 0 := by simpa using h
    refine ⟨⟨a - 1, rfl, by omega, fun j u hj hu => ?_, k3.trans (k4.trans kl)⟩, by simp only [Int.toNat_natCast]; omega⟩
    by_cases e : j = a - 1
    · subst e; rw [hz] at hu; cases hu; exact hzy
    · exact hhi j u (by omega) hu
  have hlo : ∀ u, 0 < a → out[a - 1]? = some u → ¬ cfP y u < 0 := fun u _ hu => by
    rw [hz] at hu
    cases hu
    simpa using h
  have kz : K0 w2 Wz := k3.trans (k4.trans kl)
  have hoz := owns_kp ho3 (k4.trans kl) (fun _ _ h => h)
  clear h0 h hz hatz hg hW4 ho3 hL3 k03 k3 k4 kl he
  rotate_left
  all_goals
    intro n5
    refine ⟨⟨by omega, by omega⟩, fun W4 hW4 => ?_⟩
    have k4 : K0 Wz W4 := hW4.kk rfl
    have g4 : Wz.heap.size ≤ n5 := hW4.fresh 1 rfl rfl
    have hn1 : n1 < Wz.heap.size := Nat.lt_of_lt_of_le hw1 (k2.trans kz).size
    have ho4 := owns_kp hoz k4 (fun _ _ h => h)
    have hlen := ho4.1
    refine ⟨Wz.heap.size, [], (out.flatMap dfC).take (a * 54), own_none g4 (hW4.cells 1 rfl), by rw [List.length_take, hlen]; exact Nat.min_eq_left (Nat.mul_le_mul_right _ ha), src_take ho4 (one out) _, by omega, by omega, k4.size, fun p5 c5 w5 ho5 hg5 _ => ?_⟩
    rw [List.nil_append] at ho5
    have k5 : K0 Wz w5 := k4.fresh (kp_grown hg5) (fun j hj e => by have := own_n e; omega)
    have hoo : ∀ k, (Value.slice p0 out.length d0).ownBlock = some k → k < Wz.heap.size := fun k e => own_lt hoz e
    have ho5' := owns_kp ho4 (kp_grown hg5) (fun k hk e => by have := own_n e; have := hoo k hk; omega)
    refine ⟨⟨(kp_grown hg5).size, fun z hz hlt => (kp_grown hg5).block z hlt (fun e => by have := own_n e; simp at hz; omega)⟩, nn_is hp ⟨⟨by omega, by omega⟩, y.d.id, y.d.au, y.d.g, y.d.v, y.d.rm, y.d.md, y.p, y.d.ms.length, y.c, y.d.tx, hRy w5 ((k2.trans kz).trans k5), fun n6 W6 hW6 => ?_⟩⟩
    have k6 : K0 w5 W6 := hW6.kk rfl
    have ho6 := owns_kp ho5 k6 (fun _ _ h => h)
    refine ⟨Wz.heap.size, _, ho6, by omega, by omega, (k5.trans k6).size, fun p7 c7 w7 ho7 hg7 _ => ?_⟩
    have ho7 : w7.ownsRow Wz.heap.size 50 54 (.slice p7 (a + 1) c7) (a + 1) ((out.flatMap dfC).take (a * 54) ++ dfC y) := ho7
    have k7 : K0 Wz w7 := (k5.trans k6).fresh (kp_grown hg7) (fun j hj e => by have := own_ge ho6 e; omega)
    have ho7' := owns_kp (owns_kp ho5' k6 (fun _ _ h => h)) (kp_grown hg7) (fun k hk e => by have := own_ge ho6 e; have := hoo k hk; omega)
    refine ⟨⟨(kp_grown hg7).size, fun z hz hlt => (kp_grown hg7).block z hlt (fun e => by have := own_ge ho6 e; simp at hz; omega)⟩, ⟨by omega, by omega⟩, Wz.heap.size, _, (out.flatMap dfC).drop (a * 54), ho7, by rw [List.length_drop, hlen, Nat.sub_mul], src_drop ho7' (one out) ha, by omega, by omega, k7.size, fun p8 c8 w8 ho8 hg8 _ => ?_⟩
    have k8 : K0 Wz w8 := k7.fresh (kp_grown hg8) (fun j hj e => by have := own_ge ho7 e; omega)
    have em : (out.take a ++ y :: out.drop a).length = a + 1 + (out.length - a) := by rw [List.length_append, List.length_take, List.length_cons, List.length_drop]; omega
    rw [ins_flat21, ← em] at ho8
    rw [← em]
    refine ⟨⟨(kp_grown hg8).size, fun z hz hlt => (kp_grown hg8).block z hlt (fun e => by have := own_ge ho7 e; simp at hz; omega)⟩, ⟨i + 1, out.take a ++ y :: out.drop a, p8, c8, by rw [inc64 (by omega)], hlt, ?_, ver_ins hpw hhi hlo ha, by omega, own_base ho8 (k2.trans kz).size, (k2.trans kz).trans k8⟩, by rw [inc64 (by omega)]; simp only [Int.toNat_natCast]; omega⟩
    rw [verF_snoc hy, if_pos hgs]
    refine List.Perm.trans ?_ (hperm.append_right [y])
    refine (List.perm_middle).trans ?_
    rw [List.take_append_drop]
    exact (List.perm_append_singleton y out).symm
set_option maxRecDepth 100000 in
set_option maxHeartbeats 4000000 in
theorem xcur_any (A : List Au) (ap : Option Addr) (ac : Nat) (L : List DX) (p : Option Addr) (c : Nat) (s : ByteArray) (w : World) (hR : SR w L p c) (hl : L.length ≤ 1000000) :
    Calls Tryz.prog 30 #[.agg #[.slice ap A.length ac, .slice p L.length c], .string s] w fun e w' => (∃ out : List DX, out.Perm (verF L s) ∧ (out.Pairwise fun x y => ¬ cfP y x < 0) ∧ e = .returned (.tuple #[dfV ((headC out).getD dxz), .bool (headC out).isSome])) ∧ K0 w w' := by
  refine vc_xcur ap A.length ac p L.length c s w _ (fun n1 n2 W hW => ?_)
  have kW : K0 w W := hW.kk rfl
  refine ⟨(xvers_any A ap ac L p c s W (hR.k0 kW) hl).mono fun e w1 ⟨⟨out, q, d, he, ho, hp, hs⟩, k1⟩ => ⟨_, _, _, he, .of_k0 k1, ?_⟩⟩
  have k01 := kW.trans k1
  cases out with
  | nil =>
    refine nn_off (fun b o => ⟨gimp_intro (fun h => by cases h), false, gimp_intro (fun h => by cases h), bsp_intro (fun _ => fun W2 hW2 => ⟨⟨[], hp, hs, rfl⟩, hW2.k0 k01⟩) (fun h => by cases h)⟩)
  | cons x r =>
    obtain ⟨g, hg, hat⟩ := own_at dfC ho (k := 0) (y := x) (fun y _ => dfC_length y) (by decide) rfl
    have hc : w1.cell? ⟨g, 0 + 50, none⟩ = some (.bool x.d.rm) := by have := hat.cell (j := 50) (v := .bool x.d.rm) rfl; simpa using this
    have hat0 : AtL w1 g 0 (dfC x) := by simpa using hat
    have e0 : ((((x :: r).length : Nat) : Int) == 0) = false := by
      rw [beq_eq_false_iff_ne]
      rw [List.length_cons]; omega
    refine nn_is hg ⟨gimp_intro fun _ => ⟨by omega, by rw [List.length_cons]; omega⟩, x.d.rm, gimp_intro fun _ => hc, bsp_intro (fun h => fun W2 hW2 => ?_) (fun h => ?_)⟩
    · have hb : x.d.rm = true := by rw [e0] at h; simpa using h
      have hh : headC (x :: r) = none := if_pos hb
      exact ⟨⟨x :: r, hp, hs, by rw [hh]; rfl⟩, hW2.k0 k01⟩
    · have hb : ¬ x.d.rm = true := by rw [e0] at h; simpa using h
      have hh : headC (x :: r) = some x := if_neg hb
      refine nn_is hg ⟨⟨by omega, by rw [List.length_cons]; omega⟩, x.d.id, x.d.au, x.d.g, x.d.v, x.d.rm, x.d.md, x.p, x.d.ms.length, x.c, x.d.tx, hat0, fun W2 hW2 => ⟨⟨x :: r, hp, hs, by rw [hh]; rfl⟩, hW2.k0 k01⟩⟩

end Go.Proofs.YtkkfnlehlkiejaaGreatDoor

/- The formulas of functions by the symbolic evaluator, and that each gives the call's contract. Written by a program (gen.py). No condition. -/
namespace Go.Proofs.YtkkfnlehlkiejaaGreatDoor
set_option maxRecDepth 100000
set_option linter.unusedVariables false

def VC_lrcurr (ap : Option Addr) (an : Nat) (ac : Nat) (op : Option Addr) (on : Nat) (oc : Nat) (s : ByteArray) (w : World) (R : Ending → World → Prop) : Prop :=
 ∀ (n : Nat) (W : World),
 Loc w.heap.size [Blk.mk n 42 [Value.slice ap an ac, Value.slice op on oc] 2] w W →
 CallsS Tryz.prog 18 #[Value.agg #[Value.slice ap an ac, Value.slice op on oc]] W fun (e : Ending) (w' : World) =>
 ∃ (x : Option Addr),
 ∃ (p : Option Addr),
 ∃ (n_1 : Nat),
 ∃ (c : Nat),
 ∃ (p_1 : Option Addr),
 ∃ (n_2 : Nat),
 ∃ (c_1 : Nat),
 ∃ (x_1 : Bool),
 e =
 Ending.returned
 (Value.tuple
 #[Value.pointer x, Value.agg #[Value.slice p n_1 c, Value.slice p_1 n_2 c_1], Value.bool x_1]) ∧
 KeptL [n] W w' ∧
 ∀ (n_3 : Nat) (W : World),
 Loc w.heap.size
 [Blk.mk n_3 33 [Value.slice p n_1 c, Value.slice p_1 n_2 c_1] (wrM 2),
 Blk.mk n 42 [Value.slice ap an ac, Value.slice op on oc] 0]
 w' W →
 bsp (!(!x_1 || x.isNone))
 (CallsS Tryz.prog 15 #[] W fun (e : Ending) (w' : World) =>
 ∃ (x_2 : Bool),
 e = Ending.returned (Value.bool x_2) ∧
 KeptL [n_3, n] W w' ∧
 bsp (false || !x_2)
 (bsp x_1
 (CallsS Tryz.prog 15 #[] w' fun (e : Ending) (w'_1 : World) =>
 ∃ (x : Bool),
 e = Ending.returned (Value.bool x) ∧
 KeptL [n_3, n] w' w'_1 ∧ R (Ending.returned (Value.bool (true && x))) w'_1)
 (KeptL [n_3, n] w' w' ∧ R (Ending.returned (Value.bool false)) w'))
 (CallsS Tryz.prog 29 #[Value.pointer x, Value.string s] w' fun (e : Ending) (w'_1 : World) =>
 ∃ (f : Nat → Int),
 ∃ (f_1 : Nat → Int),
 ∃ (x_3 : ByteArray),
 ∃ (x_4 : Int),
 ∃ (x_5 : Bool),
 ∃ (x_6 : Bool),
 ∃ (p_2 : Option Addr),
 ∃ (n_4 : Nat),
 ∃ (c_2 : Nat),
 ∃ (x_7 : ByteArray),
 ∃ (x_8 : Bool),
 e =
 Ending.returned
 (Value.tuple
 #[Value.agg
 (arrI IntKind.u8 f 32 0 ++ (arrI IntKind.u8 f_1 16 0 ++ [Value.string x_3,
 Value.int IntKind.i64 x_4, Value.bool x_5, Value.bool x_6,
 Value.slice p_2 n_4 c_2, Value.string x_7])).toArray,
 Value.bool x_8]) ∧
 KeptL [n_3, n] w' w'_1 ∧
 ∀ (n_5 : Nat) (W : World),
 Loc w.heap.size
 [Blk.mk n_5 56
 (arrI IntKind.u8 f 32 0 ++ (arrI IntKind.u8 f_1 16 0 ++ [Value.string x_3,
 Value.int IntKind.i64 x_4, Value.bool x_5, Value.bool x_6,
 Value.slice p_2 n_4 c_2, Value.string x_7]))
 (wrM 2),
 Blk.mk n_3 33 [Value.slice p n_1 c, Value.slice p_1 n_2 c_1] 0,
 Blk.mk n 42 [Value.slice ap an ac, Value.slice op on oc] 0]
 w'_1 W →
 CallsS Tryz.prog 30
 #[Value.agg #[Value.slice p n_1 c, Value.slice p_1 n_2 c_1], Value.string s] W
 fun (e : Ending) (w' : World) =>
 ∃ (f_2 : Nat → Int),
 ∃ (f_3 : Nat → Int),
 ∃ (x_9 : ByteArray),
 ∃ (x_10 : Int),
 ∃ (x_11 : Bool),
 ∃ (x_12 : Bool),
 ∃ (p_3 : Option Addr),
 ∃ (n_6 : Nat),
 ∃ (c_3 : Nat),
 ∃ (x_13 : ByteArray),
 ∃ (x_14 : Bool),
 e =
 Ending.returned
 (Value.tuple
 #[Value.agg
 (arrI IntKind.u8 f_2 32 0 ++ (arrI IntKind.u8 f_3 16 0 ++ [Value.string x_9, Value.int IntKind.i64 x_10, Value.bool x_11,
 Value.bool x_12, Value.slice p_3 n_6 c_3, Value.string x_13])).toArray,
 Value.bool x_14]) ∧
 KeptL [n_5, n_3, n] W w' ∧
 ∀ (n_7 : Nat) (W : World),
 Loc w.heap.size
 [Blk.mk n_7 50
 (arrI IntKind.u8 f_2 32 0 ++ (arrI IntKind.u8 f_3 16 0 ++ [Value.string x_9, Value.int IntKind.i64 x_10, Value.bool x_11,
 Value.bool x_12, Value.slice p_3 n_6 c_3, Value.string x_13]))
 (wrM 2),
 Blk.mk n_5 56
 (arrI IntKind.u8 f 32 0 ++ (arrI IntKind.u8 f_1 16 0 ++ [Value.string x_3, Value.int IntKind.i64 x_4, Value.bool x_5,
 Value.bool x_6, Value.slice p_2 n_4 c_2, Value.string x_7]))
 0,
 Blk.mk n_3 33 [Value.slice p n_1 c, Value.slice p_1 n_2 c_1] 0,
 Blk.mk n 42 [Value.slice ap an ac, Value.slice op on oc] 0]
 w' W →
 CallsS Tryz.prog 31 #[Value.pointer x, Value.string s] W
 fun (e : Ending) (w' : World) =>
 ∃ (p_4 : Option Addr),
 ∃ (n_8 : Nat),
 ∃ (c_4 : Nat),
 e = Ending.returned (Value.slice p_4 n_8 c_4) ∧
 KeptL [n_7, n_5, n_3, n] W w' ∧
 ∀ (W : World),
 Loc w.heap.size
 [Blk.mk n_7 50
 (arrI IntKind.u8 f_2 32 0 ++ (arrI IntKind.u8 f_3 16 0 ++ [Value.string x_9,
 Value.int IntKind.i64 x_10, Value.bool x_11,
 Value.bool x_12, Value.slice p_3 n_6 c_3,
 Value.string x_13]))
 0,
 Blk.mk n_5 56
 (arrI IntKind.u8 f 32 0 ++ (arrI IntKind.u8 f_1 16 0 ++ [Value.string x_3,
 Value.int IntKind.i64 x_4, Value.bool x_5,
 Value.bool x_6, Value.slice p_2 n_4 c_2,
 Value.string x_7]))
 0,
 Blk.mk n_3 33
 [Value.slice p n_1 c, Value.slice p_1 n_2 c_1] 0,
 Blk.mk n 42 [Value.slice ap an ac, Value.slice op on oc]
 0]
 w' W →
 ∃ (S : World → Prop),
 S W ∧
 ∃ (f_4 : Nat → Int),
 ∃ (f_5 : Nat → Int),
 ∃ (x_15 : ByteArray),
 ∃ (x_16 : Int),
 ∃ (x_17 : Bool),
 ∃ (x_18 : Bool),
 ∃ (p_5 : Option Addr),
 ∃ (n_9 : Nat),
 ∃ (c_5 : Nat),
 ∃ (x_19 : ByteArray),
 gimp (!!x_8 == x_14)
 (∀ (w' : World),
 S w' →
 AtL w' n_5 0
 (arrI IntKind.u8 f_4 32 0 ++ (arrI IntKind.u8 f_5 16 0 ++ [Value.string x_15,
 Value.int IntKind.i64 x_16,
 Value.bool x_17, Value.bool x_18,
 Value.slice p_5 n_9 c_5,
 Value.string x_19]))) ∧
 ∃ (f_6 : Nat → Int),
 ∃ (f_7 : Nat → Int),
 ∃ (x_20 : ByteArray),
 ∃ (x_21 : Int),
 ∃ (x_22 : Bool),
 ∃ (x_23 : Bool),
 ∃ (p_6 : Option Addr),
 ∃ (n_10 : Nat),
 ∃ (c_6 : Nat),
 ∃ (x_24 : ByteArray),
 gimp (!!x_8 == x_14)
 (∀ (w' : World),
 S w' →
 AtL w' n_7 0
 (arrI IntKind.u8 f_6 32 0 ++ (arrI IntKind.u8 f_7 16 0 ++ [Value.string x_20,
 Value.int IntKind.i64 x_21,
 Value.bool x_22,
 Value.bool x_23,
 Value.slice p_6 n_10 c_6,
 Value.string x_24]))) ∧
 bsp (!!x_8 == x_14)
 (CallsS Tryz.prog 26
 #[Value.agg
 (arrI IntKind.u8 f_4 32 0 ++ (arrI IntKind.u8 f_5 16 0 ++ [Value.string x_15,
 Value.int IntKind.i64 x_16,
 Value.bool x_17,
 Value.bool x_18,
 Value.slice p_5 n_9 c_5,
 Value.string x_19])).toArray]
 W
 fun (e : Ending) (w' : World) =>
 ∃ (f_8 : Nat → Int),
 ∃ (f_9 : Nat → Int),
 ∃ (x_25 : ByteArray),
 ∃ (x_26 : Int),
 ∃ (x_27 : Bool),
 ∃ (x_28 : Bool),
 ∃ (p_7 : Option Addr),
 ∃ (n_11 : Nat),
 ∃ (c_7 : Nat),
 ∃ (x_29 : ByteArray),
 e =
 Ending.returned
 (Value.agg
 (arrI IntKind.u8 f_8 32 0 ++ (arrI IntKind.u8 f_9 16 0 ++ [Value.string x_25,
 Value.int
 IntKind.i64 x_26,
 Value.bool x_27,
 Value.bool x_28,
 Value.slice p_7
 n_11 c_7,
 Value.string
 x_29])).toArray) ∧
 S w' ∧
 CallsS Tryz.prog 28
 #[Value.agg
 (arrI IntKind.u8 f_8 32 0 ++ (arrI IntKind.u8 f_9 16 0 ++ [Value.string
 x_25,
 Value.int
 IntKind.i64
 x_26,
 Value.bool x_27,
 Value.bool x_28,
 Value.slice p_7
 n_11 c_7,
 Value.string
 x_29])).toArray,
 Value.agg
 (arrI IntKind.u8 f_6 32 0 ++ (arrI IntKind.u8 f_7 16 0 ++ [Value.string
 x_20,
 Value.int
 IntKind.i64
 x_21,
 Value.bool x_22,
 Value.bool x_23,
 Value.slice p_6
 n_10 c_6,
 Value.string
 x_24])).toArray]
 w'
 fun (e : Ending)
 (w' : World) =>
 ∃ (x_30 : Bool),
 e =
 Ending.returned
 (Value.bool
 x_30) ∧
 S w' ∧
 bsp
 (!(false ||
 !x_30))
 (CallsS
 Tryz.prog 32
 #[Value.pointer
 x,
 Value.string
 s]
 w'
 fun
 (e : Ending)
 (w' :
 World) =>
 ∃ (x : Bool),
 e =
 Ending.returned
 (Value.bool
 x) ∧
 S w' ∧
 ∃ (x_31 :
 Bool),
 gimp
 (!false &&
 x_14)
 (∀
 (w' :
 World),
 S w' →
 w'.cell?
 (Addr.mk
 n_7
 (0 +
 51)
 none) =
 some
 (Value.bool
 x_31)) ∧
 ∃ (p_8 :
 Option
 Addr),
 ∃ (n_12 :
 Nat),
 ∃ (c_8 :
 Nat),
 ∃ (p_9
 :
 Option
 Addr),
 ∃
 (n_13
 :
 Nat),
 ∃
 (c_9
 :
 Nat),
 gimp
 (!(false ||
 !x ==
 (x_14 &&
 x_31)))
 (∀
 (w' :
 World),
 S
 w' →
 AtL
 w'
 n_3
 0
 [Value.slice
 p_8
 n_12
 c_8,
 Value.slice
 p_9
 n_13
 c_9]) ∧
 bsp
 (!(false ||
 !x ==
 (x_14 &&
 x_31)))
 (CallsS
 Tryz.prog
 34
 #[Value.agg
 #[Value.slice
 p_8
 n_12
 c_8,
 Value.slice
 p_9
 n_13
 c_9],
 Value.string
 s]
 w'
 fun
 (e :
 Ending)
 (w' :
 World) =>
 ∃
 (p_10
 :
 Option
 Addr),
 ∃
 (n_14
 :
 Nat),
 ∃
 (c_10
 :
 Nat),
 e =
 Ending.returned
 (Value.slice
 p_10
 n_14
 c_10) ∧
 CallsS
 Tryz.prog
 33
 #[Value.slice
 p_4
 n_8
 c_4,
 Value.slice
 p_10
 n_14
 c_10]
 w'
 fun
 (e :
 Ending)
 (w' :
 World) =>
 ∃
 (x
 :
 Bool),
 e =
 Ending.returned
 (Value.bool
 x) ∧
 KeptL
 [n_7,
 n_5,
 n_3,
 n]
 W
 w' ∧
 bsp
 (false ||
 !x)
 (R
 (Ending.returned
 (Value.bool
 false))
 w')
 (nn
 (!!x_8 &&
 decide
 ((↑n_8 :
 Int) >
 0))
 p_4
 fun
 (b
 o :
 Nat) =>
 gimp
 (!!x_8 &&
 decide
 ((↑n_8 :
 Int) >
 0))
 ((0 : Int) ≤ 0 ∧
 0 <
 (↑n_8 :
 Int)) ∧
 ∃
 (f_10
 :
 Nat →
 Int),
 ∃
 (f_11
 :
 Nat →
 Int),
 ∃
 (x
 :
 ByteArray),
 ∃
 (x_32
 :
 Int),
 ∃
 (x_33
 :
 Bool),
 ∃
 (x_34
 :
 Bool),
 ∃
 (p_11
 :
 Option
 Addr),
 ∃
 (n_15
 :
 Nat),
 ∃
 (c_11
 :
 Nat),
 ∃
 (x_35
 :
 ByteArray),
 gimp
 (!!x_8 &&
 decide
 ((↑n_8 :
 Int) >
 0))
 (∀
 (W :
 World),
 Loc
 w.heap.size
 [Blk.mk
 n_7
 50
 (arrI IntKind.u8 f_2 32 0 ++ (arrI IntKind.u8 f_3 16 0 ++ [Value.string
 x_9,
 Value.int
 IntKind.i64
 x_10,
 Value.bool
 x_11,
 Value.bool
 x_12,
 Value.slice
 p_3
 n_6
 c_3,
 Value.string
 x_13]))
 0,
 Blk.mk
 n_5
 56
 (arrI IntKind.u8 f 32 0 ++ (arrI IntKind.u8 f_1 16 0 ++ [Value.string
 x_3,
 Value.int
 IntKind.i64
 x_4,
 Value.bool
 x_5,
 Value.bool
 x_6,
 Value.slice
 p_2
 n_4
 c_2,
 Value.string
 x_7]))
 0,
 Blk.mk
 n_3
 33
 [Value.slice
 p
 n_1
 c,
 Value.slice
 p_1
 n_2
 c_1]
 0,
 Blk.mk
 n
 42
 [Value.slice
 ap
 an
 ac,
 Value.slice
 op
 on
 oc]
 0]
 w'
 W →
 AtL
 W
 b
 o
 (arrI IntKind.u8 f_10 32 0 ++ (arrI IntKind.u8 f_11 16 0 ++ [Value.string
 x,
 Value.int
 IntKind.i64
 x_32,
 Value.bool
 x_33,
 Value.bool
 x_34,
 Value.slice
 p_11
 n_15
 c_11,
 Value.string
 x_35]))) ∧
 ∀
 (W :
 World),
 Loc
 w.heap.size
 [Blk.mk
 n_7
 50
 (arrI IntKind.u8 f_2 32 0 ++ (arrI IntKind.u8 f_3 16 0 ++ [Value.string
 x_9,
 Value.int
 IntKind.i64
 x_10,
 Value.bool
 x_11,
 Value.bool
 x_12,
 Value.slice
 p_3
 n_6
 c_3,
 Value.string
 x_13]))
 0,
 Blk.mk
 n_5
 56
 (arrI IntKind.u8 f 32 0 ++ (arrI IntKind.u8 f_1 16 0 ++ [Value.string
 x_3,
 Value.int
 IntKind.i64
 x_4,
 Value.bool
 x_5,
 Value.bool
 x_6,
 Value.slice
 p_2
 n_4
 c_2,
 Value.string
 x_7]))
 0,
 Blk.mk
 n_3
 33
 [Value.slice
 p
 n_1
 c,
 Value.slice
 p_1
 n_2
 c_1]
 0,
 Blk.mk
 n
 42
 [Value.slice
 ap
 an
 ac,
 Value.slice
 op
 on
 oc]
 0]
 w'
 W →
 bsp
 (!!x_8)
 (bsp
 (decide
 ((↑n_8 :
 Int) >
 0))
 (CallsS
 Tryz.prog
 27
 #[Value.agg
 (arrI IntKind.u8 f_10 32 0 ++ (arrI IntKind.u8 f_11 16 0 ++ [Value.string
 x,
 Value.int
 IntKind.i64
 x_32,
 Value.bool
 x_33,
 Value.bool
 x_34,
 Value.slice
 p_11
 n_15
 c_11,
 Value.string
 x_35])).toArray,
 Value.agg
 (arrI IntKind.u8 f 32 0 ++ (arrI IntKind.u8 f_1 16 0 ++ [Value.string
 x_3,
 Value.int
 IntKind.i64
 x_4,
 Value.bool
 x_5,
 Value.bool
 x_6,
 Value.slice
 p_2
 n_4
 c_2,
 Value.string
 x_7])).toArray]
 W
 fun
 (e :
 Ending)
 (w' :
 World) =>
 ∃
 (x
 :
 Bool),
 e =
 Ending.returned
 (Value.bool
 x) ∧
 KeptL
 [n_7,
 n_5,
 n_3,
 n]
 W
 w' ∧
 R
 (Ending.returned
 (Value.bool
 (false ||
 true &&
 x)))
 w')
 (KeptL
 [n_7,
 n_5,
 n_3,
 n]
 W
 W ∧
 R
 (Ending.returned
 (Value.bool
 (false ||
 false)))
 W))
 (KeptL
 [n_7,
 n_5,
 n_3,
 n]
 W
 W ∧
 R
 (Ending.returned
 (Value.bool
 true))
 W)))
 (KeptL
 [n_7,
 n_5,
 n_3,
 n]
 W
 w' ∧
 R
 (Ending.returned
 (Value.bool
 false))
 w'))
 (S w' ∧
 ∃ (p :
 Option Addr),
 ∃ (n_12 :
 Nat),
 ∃ (c : Nat),
 ∃ (p :
 Option
 Addr),
 ∃ (n_13 :
 Nat),
 ∃ (c :
 Nat),
 True ∧
 KeptL
 [n_7,
 n_5,
 n_3,
 n]
 W w' ∧
 R
 (Ending.returned
 (Value.bool
 false))
 w'))
 (S W ∧
 S W ∧
 S W ∧
 ∃ (p : Option Addr),
 ∃ (n_11 : Nat),
 ∃ (c : Nat),
 ∃ (p : Option Addr),
 ∃ (n_12 : Nat),
 ∃ (c : Nat),
 True ∧
 KeptL [n_7, n_5, n_3, n]
 W W ∧
 R
 (Ending.returned
 (Value.bool false))
 W)))
 (KeptL [n_3, n] W W ∧
 bsp x_1
 (CallsS Tryz.prog 15 #[] W fun (e : Ending) (w' : World) =>
 ∃ (x : Bool),
 e = Ending.returned (Value.bool x) ∧
 KeptL [n_3, n] W w' ∧ R (Ending.returned (Value.bool (true && x))) w')
 (KeptL [n_3, n] W W ∧ R (Ending.returned (Value.bool false)) W))
theorem vc_lrcurr (ap : Option Addr) (an : Nat) (ac : Nat) (op : Option Addr) (on : Nat) (oc : Nat) (s : ByteArray) (w : World) (R : Ending → World → Prop) (h : VC_lrcurr ap an ac op on oc s w R) : Calls Tryz.prog 7 ([Value.agg
    #[Value.slice ap an ac, Value.slice op on oc],
  Value.string s] : List Value).toArray w R := by
  have e : execR2 { P := Tryz.prog, loops := [], pur := pur1, tails := [(7, 5), (9, 11)], joins := [], boxes := [] } Tryz.f7.results.toList R (Tryz.f7.body.getD .skip) (initF [Value.agg
    #[Value.slice ap an ac, Value.slice op on oc],
  Value.string
    s] (Tryz.f7.ntmps - ([Value.agg #[Value.slice ap an ac, Value.slice op on oc],
  Value.string s] : List Value).length)) w = VC_lrcurr ap an ac op on oc s w R := by kernel_rfl
  have hb : Tryz.f7.body = some (Tryz.f7.body.getD .skip) := by kernel_rfl
  exact calls_of_exec2' (P := Tryz.prog) (fn := Tryz.f7) (c := Tryz.f7.body.getD .skip) (args := [Value.agg
    #[Value.slice ap an ac, Value.slice op on oc],
  Value.string s]) (w := w) (R := R) pur1_ok Tryz.func7 hb e h

def VC_lvers (p : Option Addr) (n : Nat) (c : Nat) (q : Option Addr) (k : Nat) (d : Nat) (w : World) (R : Ending → World → Prop) : Prop :=
 bsp ((↑n : Int) != (↑k : Int)) (R (Ending.returned (Value.bool false)) w)
 (∃ (I : List Value → World → Prop),
 ∃ (m : List Value → World → Nat),
 I [Value.int IntKind.i64 0] w ∧
 ∀ (x : Int) (w' : World),
 I [Value.int IntKind.i64 x] w' →
 bsp (decide (x < (↑n : Int)))
 (∀ (W : World),
 Loc w.heap.size [] w' W →
 ∃ (S : World → Prop),
 S W ∧
 nn true p fun (b o : Nat) =>
 (0 ≤ x ∧ x < (↑n : Int)) ∧
 ∃ (f : Nat → Int),
 ∃ (f_1 : Nat → Int),
 ∃ (x_1 : ByteArray),
 ∃ (x_2 : Int),
 ∃ (x_3 : Bool),
 ∃ (x_4 : Bool),
 ∃ (p : Option Addr),
 ∃ (n : Nat),
 ∃ (c : Nat),
 ∃ (x_5 : ByteArray),
 (∀ (w' : World),
 S w' →
 AtL w' b (o + x.toNat * 54)
 (arrI IntKind.u8 f 32 0 ++ (arrI IntKind.u8 f_1 16 0 ++ [Value.string x_1, Value.int IntKind.i64 x_2, Value.bool x_3, Value.bool x_4,
 Value.slice p n c, Value.string x_5]))) ∧
 nn true q fun (b o : Nat) =>
 (0 ≤ x ∧ x < (↑k : Int)) ∧
 ∃ (f_2 : Nat → Int),
 ∃ (f_3 : Nat → Int),
 ∃ (x_6 : ByteArray),
 ∃ (x_7 : Int),
 ∃ (x_8 : Bool),
 ∃ (x_9 : Bool),
 ∃ (p_1 : Option Addr),
 ∃ (n_1 : Nat),
 ∃ (c_1 : Nat),
 ∃ (x_10 : ByteArray),
 (∀ (w' : World),
 S w' →
 AtL w' b (o + x.toNat * 54)
 (arrI IntKind.u8 f_2 32 0 ++ (arrI IntKind.u8 f_3 16 0 ++ [Value.string x_6,
 Value.int IntKind.i64 x_7, Value.bool x_8, Value.bool x_9,
 Value.slice p_1 n_1 c_1, Value.string x_10]))) ∧
 CallsS Tryz.prog 26
 #[Value.agg
 (arrI IntKind.u8 f 32 0 ++ (arrI IntKind.u8 f_1 16 0 ++ [Value.string x_1,
 Value.int IntKind.i64 x_2, Value.bool x_3, Value.bool x_4, Value.slice p n c,
 Value.string x_5])).toArray]
 W fun (e : Ending) (w'_1 : World) =>
 ∃ (f : Nat → Int),
 ∃ (f_4 : Nat → Int),
 ∃ (x_11 : ByteArray),
 ∃ (x_12 : Int),
 ∃ (x_13 : Bool),
 ∃ (x_14 : Bool),
 ∃ (p : Option Addr),
 ∃ (n : Nat),
 ∃ (c : Nat),
 ∃ (x_15 : ByteArray),
 e =
 Ending.returned
 (Value.agg
 (arrI IntKind.u8 f 32 0 ++ (arrI IntKind.u8 f_4 16 0 ++ [Value.string x_11, Value.int IntKind.i64 x_12, Value.bool x_13,
 Value.bool x_14, Value.slice p n c, Value.string x_15])).toArray) ∧
 S w'_1 ∧
 CallsS Tryz.prog 28
 #[Value.agg
 (arrI IntKind.u8 f 32 0 ++ (arrI IntKind.u8 f_4 16 0 ++ [Value.string x_11, Value.int IntKind.i64 x_12, Value.bool x_13,
 Value.bool x_14, Value.slice p n c, Value.string x_15])).toArray,
 Value.agg
 (arrI IntKind.u8 f_2 32 0 ++ (arrI IntKind.u8 f_3 16 0 ++ [Value.string x_6, Value.int IntKind.i64 x_7, Value.bool x_8,
 Value.bool x_9, Value.slice p_1 n_1 c_1, Value.string x_10])).toArray]
 w'_1 fun (e : Ending) (w'_2 : World) =>
 ∃ (x_16 : Bool),
 e = Ending.returned (Value.bool x_16) ∧
 KeptL [] W w'_2 ∧
 bsp (!x_16) (R (Ending.returned (Value.bool false)) w'_2)
 (I [Value.int IntKind.i64 (IntKind.i64.wrap (x + 1))] w'_2 ∧
 m [Value.int IntKind.i64 (IntKind.i64.wrap (x + 1))] w'_2 <
 m [Value.int IntKind.i64 x] w'))
 (R (Ending.returned (Value.bool true)) w'))
theorem vc_lvers (p : Option Addr) (n : Nat) (c : Nat) (q : Option Addr) (k : Nat) (d : Nat) (w : World) (R : Ending → World → Prop) (h : VC_lvers p n c q k d w R) : Calls Tryz.prog 33 ([Value.slice
    p n c,
  Value.slice q k d] : List Value).toArray w R := by
  have e : execR2 { P := Tryz.prog, loops := [(4, [(5, Ck.int IntKind.i64)])], pur := pur1, tails := [(6, 4)], joins := [], boxes := [] } Tryz.f33.results.toList R (Tryz.f33.body.getD .skip) (initF [Value.slice
    p n c,
  Value.slice q k
    d] (Tryz.f33.ntmps - ([Value.slice p n c,
  Value.slice q k d] : List Value).length)) w = VC_lvers p n c q k d w R := by kernel_rfl
  have hb : Tryz.f33.body = some (Tryz.f33.body.getD .skip) := by kernel_rfl
  exact calls_of_exec2' (P := Tryz.prog) (fn := Tryz.f33) (c := Tryz.f33.body.getD .skip) (args := [Value.slice p n c,
  Value.slice q k d]) (w := w) (R := R) pur1_ok Tryz.func33 hb e h

end Go.Proofs.YtkkfnlehlkiejaaGreatDoor

/- Chapter 21: RegistryCurrent on worlds. No condition but what a reading gives. -/
namespace Go.Proofs.YtkkfnlehlkiejaaGreatDoor
open Go.RowKit Go.Maps

set_option maxRecDepth 100000 in
set_option maxHeartbeats 2000000 in
theorem lvers_any (cs : List DX) (p : Option Addr) (c : Nat) (out : List DX) (q : Option Addr) (d : Nat) (w : World) (hp : RowA dfC 54 w p cs) (hpm : ∀ x ∈ cs, RowA auC 16 w x.p x.d.ms) (hq : RowA dfC 54 w q out) (hqm : ∀ x ∈ out, RowA auC 16 w x.p x.d.ms) (hok : ∀ x ∈ out, x.d.OK ∧ x.d.ms.length ≤ 8) (he : cs.map (fun x => x.d) = out.map fun x => x.d) (hl : cs.length ≤ 1000000) :
    Calls Tryz.prog 33 #[.slice p cs.length c, .slice q out.length d] w fun e w' => e = .returned (.bool true) ∧ K0 w w' := by
  have hlen : cs.length = out.length := by have := congrArg List.length he; simpa using this
  refine vc_lvers p cs.length c q out.length d w _ (bsp_intro (fun h => by exfalso; rw [hlen] at h; simp at h) (fun _ => ?_))
  refine ⟨fun vs w' => ∃ i : Nat, vs = [.int .i64 (i : Int)] ∧ i ≤ cs.length ∧ K0 w w', fun vs _ => (match vs with | .int _ a :: _ => cs.length - a.toNat | _ => 0), ⟨0, rfl, by omega, .refl _ _⟩, ?_⟩
  rintro x w1 ⟨i, hv, hi, k1⟩
  simp only [List.cons.injEq, Value.int.injEq, true_and, and_true] at hv
  subst hv
  refine bsp_intro (fun hlt => fun W2 hW2 => ?_) (fun hge => ⟨rfl, k1⟩)
  have hlt : i < cs.length := by simp at hlt; omega
  have k2 : K0 w1 W2 := hW2.kk rfl
  have k02 := k1.trans k2
  obtain ⟨x, b, o, hx, hpb, hat⟩ := (hp.k0 k02).get hlt
  obtain ⟨y, b2, o2, hy, hqb, hat2⟩ := (hq.k0 k02).get (k := i) (by omega)
  have hxy : x.d = y.d := by
    have h1 := congrArg (fun z => z[i]?) he
    simp only [List.getElem?_map, hx, hy, Option.map_some, Option.some.injEq] at h1
    exact h1
  have hxm := List.mem_of_getElem? hx
  have hym := List.mem_of_getElem? hy
  obtain ⟨oy, ly⟩ := hok y hym
  rw [Int.toNat_natCast]
  refine ⟨fun wx => K0 W2 wx, .refl _ _, nn_is hpb ⟨⟨by omega, by omega⟩, x.d.id, x.d.au, x.d.g, x.d.v, x.d.rm, x.d.md, x.p, x.d.ms.length, x.c, x.d.tx, fun wx k => hat.k0 k, nn_is hqb ⟨⟨by omega, by omega⟩, y.d.id, y.d.au, y.d.g, y.d.v, y.d.rm, y.d.md, y.p, y.d.ms.length, y.c, y.d.tx, fun wx k => hat2.k0 k, ?_⟩⟩⟩
  refine ⟨(lof_any x W2 ((hpm x hxm).k0 k02) (by rw [hxy]; omega)).mono fun e w3 ⟨⟨q2, d2, he, ho2⟩, k3⟩ => ⟨_, _, _, _, _, _, _, _, _, _, he, k3, ?_⟩⟩
  refine ⟨(xsame_any ⟨x.d, q2, d2⟩ y w3 ho2.row ((hqm y hym).k0 (k02.trans k3)) (by rw [hxy]; exact oy) oy (by show x.d.ms.length ≤ _; rw [hxy]; omega)).mono fun e w4 ⟨he, k4⟩ => ⟨_, he, .of_k0 (k3.trans k4), bsp_intro (fun h => ?_) (fun _ => ⟨⟨i + 1, by rw [inc64 (by omega)], hlt, (k02.trans k3).trans k4⟩, by rw [inc64 (by omega)]; simp only [Int.toNat_natCast]; omega⟩)⟩⟩
  exfalso
  have : dEq x.d y.d = true := by rw [hxy]; exact dEq_iff.2 rfl
  rw [show dEq (DX.mk x.d q2 d2).d y.d = true from this] at h
  cases h
section
variable {w : World} {cs : List DX}
theorem headX (hm : ∀ x ∈ cs, RowA auC 16 w x.p x.d.ms) : RowA auC 16 w ((headC cs).getD dxz).p ((headC cs).getD dxz).d.ms := by
  cases h : headC cs with
  | none => exact RowA.nil
  | some x => exact hm x (headC_mem h)
theorem dz_OK : dz.OK := ⟨fun _ => (show (0 : Int) ≤ 0 ∧ (0 : Int) ≤ 255 by decide), fun _ => (show (0 : Int) ≤ 0 ∧ (0 : Int) ≤ 255 by decide), fun m hm => by cases hm⟩
theorem headOK (h : ∀ x ∈ cs, x.d.OK ∧ x.d.ms.length ≤ 8) : ((headC cs).getD dxz).d.OK ∧ ((headC cs).getD dxz).d.ms.length ≤ 8 := by
  cases hc : headC cs with
  | none => exact ⟨dz_OK, by decide⟩
  | some x => exact h x (headC_mem hc)
end
set_option maxRecDepth 100000 in
set_option maxHeartbeats 8000000 in
theorem lrcurr_any (As : List Au) (ap : Option Addr) (ac : Nat) (Os : List OpY) (op : Option Addr) (oc : Nat) (s : ByteArray) (w : World) (hA : RowA atC 17 w ap As) (hB : ∀ x ∈ As, BY x.au) (hO : RowA opC 55 w op Os) (hR : ∀ x ∈ Os, DfR w x.x) (hG : GW w) :
    Calls Tryz.prog 7 #[.agg #[.slice ap As.length ac, .slice op Os.length oc], .string s] w fun e w' => e = .returned (.bool true) ∧ K0 w w' := by
  refine vc_lrcurr ap As.length ac op Os.length oc s w _ (fun n W hW => ?_)
  have kW : K0 w W := hW.kk rfl
  have hG' : ∀ {wa : World}, K0 w wa → GW wa := fun k => hG.kp k (fun h => h)
  refine ⟨(lplay_any As ap ac Os op oc W (hA.k0 kW) hB (hO.k0 kW) (fun x hx => (hR x hx).k0 kW) (hG' kW)).mono fun e w1 hQ => ?_⟩
  rcases hQ with ⟨p, k, c, q, m, d, he, k1⟩ | ⟨b, mb, rp, rc, l, ds, dp, dc, he, hI, hOK, h30⟩
  · refine ⟨_, _, _, _, _, _, _, _, he, .of_k0 k1, fun n3 W2 hW2 => bsp_intro (fun h => by simp at h) (fun _ => ?_)⟩
    have k02 := (kW.trans k1).trans (hW2.kk rfl : K0 w1 W2)
    exact ⟨.refl _ _, bsp_intro (fun _ => ⟨(known_any W2 (hG' k02)).mono fun e w3 ⟨he, k3⟩ => ⟨_, he, .of_k0 k3, rfl, k02.trans k3⟩⟩) (fun h => by cases h)⟩
  refine ⟨_, _, _, _, _, _, _, _, he, .of_k0 hI.k, fun n3 W2 hW2 => bsp_intro (fun _ => ?_) (fun h => by simp at h)⟩
  have k2 : K0 w1 W2 := hW2.kk rfl
  have k02 := (kW.trans hI.k).trans k2
  have hl := hI.dl.len
  have hdok : ∀ y ∈ ds, y.d.OK := fun y hy => (hI.sr.ok y hy).2.2
  have hd8 : ∀ y ∈ ds, y.d.OK ∧ y.d.ms.length ≤ 8 := fun y hy => ⟨hdok y hy, (dchk_sz (hI.sr.ok y hy).1).2.2.2.1⟩
  refine ⟨(known_any W2 (hG' k02)).mono fun e w3 ⟨he, k3⟩ => ⟨_, he, .of_k0 k3, bsp_intro (fun h => by simp at h) (fun _ => ?_)⟩⟩
  have hI3 := hI.k0 (k2.trans k3)
  refine ⟨(rcur_any hI3.reg (by omega) s).mono fun e w4 ⟨⟨cs1, hV1, hM1, he⟩, k4⟩ => ⟨_, _, _, _, _, _, _, _, _, _, _, he, .of_k0 k4, fun n5 W5 hW5 => ?_⟩⟩
  have k5 : K0 w4 W5 := hW5.kk rfl
  have hI5 := hI3.k0 (k4.trans k5)
  refine ⟨(xcur_any (autL As) rp rc ds dp dc s W5 hI5.sr (by omega)).mono fun e w6 ⟨⟨out, hp1, hs1, he⟩, k6⟩ => ⟨_, _, _, _, _, _, _, _, _, _, _, he, .of_k0 k6, fun n7 W7 hW7 => ?_⟩⟩
  have k7 : K0 w6 W7 := hW7.kk rfl
  have hI7 := hI5.k0 (k6.trans k7)
  refine ⟨(rvers_any hI7.reg (by omega) s).mono fun e w8 ⟨⟨cs2, p4, c4, he, ho2, hV2, hM2⟩, k8⟩ => ⟨_, _, _, he, .of_k0 k8, fun W9 hW9 => ?_⟩⟩
  have k9 : K0 w8 W9 := hW9.kk rfl
  have hI9 := hI7.k0 (k8.trans k9)
  have b7 := hW9.cells 0 rfl
  have b5 := hW9.cells 1 rfl
  have b3 := hW9.cells 2 rfl
  -- what the lists say
  have hE1 := hI.dl.vers hdok hV1 hp1 hs1
  have hE2 := hI.dl.vers hdok hV2 hp1 hs1
  have hsub : ∀ x ∈ out, x ∈ ds := fun x hx => (List.mem_filter.1 (hp1.subset hx)).1
  have hof : ∀ {cs : List DX}, cs.map (fun x => x.d) = out.map (fun x => x.d) → ∀ x ∈ cs, x.d.OK ∧ x.d.ms.length ≤ 8 := fun {cs} he x hx => by
    have h1 : x.d ∈ out.map fun x => x.d := by rw [← he]; exact List.mem_map.2 ⟨x, hx, rfl⟩
    obtain ⟨y, hy, e⟩ := List.mem_map.1 h1
    rw [← e]; exact hd8 y (hsub y hy)
  have his : (headC cs1).isSome = (headC out).isSome := by rw [headC_is, headC_is, hE1]
  have hXY : ((headC cs1).getD dxz).d = ((headC out).getD dxz).d := by rw [headC_get, headC_get, hE1]
  have hXr := headX (cs := cs1) fun x hx => (hM1 x hx).row.k0 (((((k5.trans k6).trans k7).trans k8).trans k9))
  have hYr := headX (cs := out) fun x hx => hI9.sr.ms x (hsub x hx)
  obtain ⟨oX, lX⟩ := headOK (cs := cs1) (hof hE1)
  obtain ⟨oY, lY⟩ := headOK (cs := out) (fun x hx => hd8 x (hsub x hx))
  have hcs2 : cs2.length ≤ 4096 := by
    have h1 := congrArg List.length hE2
    have h2 : out.length ≤ ds.length := by rw [hp1.length_eq]; exact List.length_filter_le _ _
    simp only [List.length_map] at h1
    omega
  have hcd : (!(!(headC cs1).isSome == (headC out).isSome)) = true := by rw [his]; simp
  have hX0 : ∀ z r, cs2 = z :: r → ∀ x, headC cs1 = some x → z.d = x.d := fun z r hz x hx => by
    have h1 := hE2.trans hE1.symm
    rw [hz] at h1
    cases cs1 with
    | nil => cases hx
    | cons y t =>
      have hx : (if y.d.rm = true then none else some y) = some x := hx
      split at hx
      · cases hx
      · cases hx
        rw [List.map_cons, List.map_cons] at h1
        exact (List.cons.inj h1).1
  have hne2 : (headC cs1).isSome = true → 0 < cs2.length := fun h => by
    have h1 := congrArg List.length (hE2.trans hE1.symm)
    simp only [List.length_map] at h1
    rw [h1]
    cases cs1 with
    | nil => cases h
    | cons y t => simp
  generalize hXd : (headC cs1).getD dxz = X at *
  generalize hYd : (headC out).getD dxz = Y at *
  refine ⟨fun wx => K0 W9 wx, .refl _ _, X.d.id, X.d.au, X.d.g, X.d.v, X.d.rm, X.d.md, X.p, X.d.ms.length, X.c, X.d.tx, gimp_intro fun _ wx k => AtL_block (k.blk b5 (fun h => h)) rfl, Y.d.id, Y.d.au, Y.d.g, Y.d.v, Y.d.rm, Y.d.md, Y.p, Y.d.ms.length, Y.c, Y.d.tx, gimp_intro fun _ wx k => AtL_block (k.blk b7 (fun h => h)) rfl, bsp_intro (fun _ => ?_) (fun h => by rw [hcd] at h; cases h)⟩
  refine ⟨(lof_any X W9 hXr (by omega)).mono fun e w10 ⟨⟨q2, d2, he, hor⟩, k10⟩ => ⟨_, _, _, _, _, _, _, _, _, _, he, k10, ?_⟩⟩
  refine ⟨(xsame_any ⟨X.d, q2, d2⟩ Y w10 hor.row (hYr.k0 k10) oX oY (by show X.d.ms.length ≤ _; omega)).mono fun e w11 ⟨he, k11⟩ => ⟨_, he, k10.trans k11, bsp_intro (fun _ => ?_) (fun h => ?_)⟩⟩
  rotate_left
  · exfalso
    rw [show dEq (DX.mk X.d q2 d2).d Y.d = true from dEq_iff.2 (by show X.d.pl = Y.d.pl; rw [hXY])] at h
    cases h
  have k911 := k10.trans k11
  have hI11 := hI9.k0 k911
  refine ⟨(rmod_any hI11.reg (by omega) s).mono fun e w12 ⟨⟨cs3, hV3, he⟩, k12⟩ => ?_⟩
  have hE3 := hI.dl.vers hdok hV3 hp1 hs1
  have hmd : ((headC cs3).isSome && ((headC cs3).getD dxz).d.md) = ((headC out).isSome && Y.d.md) := by
    rw [headC_is, headC_get, hE3, ← headC_is, ← headC_get, hYd]
  rw [hmd] at he
  have k912 := k911.trans k12
  have hI12 := hI11.k0 k12
  have hc2 : (!(false || !((headC out).isSome && Y.d.md) == ((headC out).isSome && Y.d.md))) = true := by
    generalize ((headC out).isSome && Y.d.md) = z
    cases z <;> rfl
  refine ⟨_, he, k912, Y.d.md, gimp_intro fun _ wx k => cell_at (k.blk b7 (fun h => h)) rfl, rp, (autL As).length, rc, dp, ds.length, dc, gimp_intro fun _ wx k => AtL_block (k.blk b3 (fun h => h)) rfl, bsp_intro (fun _ => ?_) (fun h => by rw [hc2] at h; cases h)⟩
  refine ⟨(xvers_any (autL As) rp rc ds dp dc s w12 hI12.sr (by omega)).mono fun e w13 ⟨⟨out2, q5, d5, he, hoo, hp2, hs2⟩, k13⟩ => ⟨_, _, _, he, ?_⟩⟩
  have hE4 := hI.dl.vers hdok hV2 hp2 hs2
  have hsub2 : ∀ x ∈ out2, x ∈ ds := fun x hx => (List.mem_filter.1 (hp2.subset hx)).1
  have k913 := k912.trans k13
  have hI13 := hI12.k0 k13
  have hr2 := (RowA.own ho2 dfC_length (by decide)).k0 (k9.trans k913)
  refine ⟨(lvers_any cs2 p4 c4 out2 q5 d5 w13 hr2 (fun x hx => (hM2 x hx).row.k0 (k9.trans k913)) (RowA.own hoo dfC_length (by decide)) (fun x hx => hI13.sr.ms x (hsub2 x hx)) (fun x hx => hd8 x (hsub2 x hx)) hE4 (by omega)).mono fun e w14 ⟨he, k14⟩ => ⟨_, he, .of_k0 (k913.trans k14), bsp_intro (fun h => by cases h) (fun _ => ?_)⟩⟩
  have k914 := k913.trans k14
  have k09 : K0 w W9 := ((((((k02.trans k3).trans k4).trans k5).trans k6).trans k7).trans k8).trans k9
  cases hc : headC cs1 with
  | none =>
    refine nn_off (fun b o => ⟨gimp_intro (fun h => by cases h), fun _ => 0, fun _ => 0, ⟨#[]⟩, 0, false, false, none, 0, 0, ⟨#[]⟩, gimp_intro (fun h => by cases h), fun W15 hW15 => bsp_intro (fun h => by cases h) (fun _ => ⟨.refl _ _, rfl, (k09.trans k914).trans (hW15.kk rfl)⟩)⟩)
  | some x =>
    have hXx : x = X := by rw [hc] at hXd; exact hXd
    subst hXx
    have hpos := hne2 (by rw [hc]; rfl)
    cases hcs : cs2 with
    | nil => rw [hcs] at hpos; cases hpos
    | cons z r =>
      have hzd := hX0 z r hcs x hc
      obtain ⟨g, hg, hat⟩ := own_at dfC ho2 (k := 0) (y := z) (fun y _ => dfC_length y) (by decide) (by rw [hcs]; rfl)
      have hat0 : AtL w8 g 0 (dfC z) := by simpa using hat
      have hzm : z ∈ cs2 := by rw [hcs]; simp
      have hlz : (z :: r).length = cs2.length := by rw [hcs]
      refine nn_is hg ⟨gimp_intro fun _ => ⟨by omega, by rw [hlz]; omega⟩, z.d.id, z.d.au, z.d.g, z.d.v, z.d.rm, z.d.md, z.p, z.d.ms.length, z.c, z.d.tx, gimp_intro fun _ W15 hW15 => hat0.k0 ((k9.trans k914).trans (hW15.kk rfl)), fun W15 hW15 => bsp_intro (fun _ => bsp_intro (fun _ => ?_) (fun h => by simp at h)) (fun h => by cases h)⟩
      have k15 : K0 w14 W15 := hW15.kk rfl
      have k815 := (k9.trans k914).trans k15
      refine ⟨(dequal_any z x W15 ((hM2 z hzm).row.k0 k815) (hXr.k0 (k914.trans k15)) (by rw [hzd]; exact oX) oX (by rw [hzd]; omega)).mono fun e w16 ⟨he, k16⟩ => ⟨_, he, .of_k0 k16, ?_, ((k09.trans k914).trans k15).trans k16⟩⟩
      rw [show dEq z.d x.d = true from dEq_iff.2 (by rw [hzd])]
      rfl

end Go.Proofs.YtkkfnlehlkiejaaGreatDoor
