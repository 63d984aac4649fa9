/- The formulas of functions by the symbolic evaluator, and that each gives the call's contract. Written by a program (gen.py). No condition. -/
import Derived.Test.YtkkfnlehlkiejaaGreatDoorProg
import Derived.Test.YtkkfnlehlkiejaaGreatDoorZ02
import Derived.Test.YtkkfnlehlkiejaaGreatDoorZ03
import Derived.Test.YtkkfnlehlkiejaaGreatDoorZ05
import Derived.KernelRfl
import Derived.Test.YtkkfnlehlkiejaaGreatDoorZ11
namespace Go.Proofs.YtkkfnlehlkiejaaGreatDoor
set_option maxRecDepth 100000
set_option linter.unusedVariables false

def VC_xless (id : Nat → Int) (au : Nat → Int) (g : ByteArray) (v : Int) (rm : Bool) (md : Bool) (p : Option Addr) (n : Nat) (c : Nat) (t : ByteArray) (id2 : Nat → Int) (au2 : Nat → Int) (g2 : ByteArray) (v2 : Int) (rm2 : Bool) (md2 : Bool) (p2 : Option Addr) (n2 : Nat) (c2 : Nat) (t2 : ByteArray) (w : World) (R : Ending → World → Prop) : Prop :=
 ∀ (n_1 n_2 : Nat),
 bsp (v != v2)
 (∀ (W : World),
 Loc w.heap.size
 [Blk.mk n_2 50
 (arrI IntKind.u8 id2 32 0 ++ (arrI IntKind.u8 au2 16 0 ++ [Value.string g2,
 Value.int IntKind.i64 v2, Value.bool rm2, Value.bool md2, Value.slice p2 n2 c2, Value.string t2]))
 2,
 Blk.mk n_1 50
 (arrI IntKind.u8 id 32 0 ++ (arrI IntKind.u8 au 16 0 ++ [Value.string g,
 Value.int IntKind.i64 v, Value.bool rm, Value.bool md, Value.slice p n c, Value.string t]))
 2]
 w W →
 R (Ending.returned (Value.bool (decide (v > v2)))) W)
 (∀ (W : World),
 Loc w.heap.size
 [Blk.mk n_2 50
 (arrI IntKind.u8 id2 32 0 ++ (arrI IntKind.u8 au2 16 0 ++ [Value.string g2,
 Value.int IntKind.i64 v2, Value.bool rm2, Value.bool md2, Value.slice p2 n2 c2, Value.string t2]))
 2,
 Blk.mk n_1 50
 (arrI IntKind.u8 id 32 0 ++ (arrI IntKind.u8 au 16 0 ++ [Value.string g,
 Value.int IntKind.i64 v, Value.bool rm, Value.bool md, Value.slice p n c, Value.string t]))
 2]
 w W →
 ∃ (s : ByteArray),
 (s.size = 32 ∧ BytesP W (some (Addr.mk n_1 0 none)) s) ∧
 ∃ (s_1 : ByteArray),
 (s_1.size = 32 ∧ BytesP W (some (Addr.mk n_2 0 none)) s_1) ∧
 R (Ending.returned (Value.bool (Op.bytesLess s.toList s_1.toList))) W)
theorem vc_xless (id : Nat → Int) (au : Nat → Int) (g : ByteArray) (v : Int) (rm : Bool) (md : Bool) (p : Option Addr) (n : Nat) (c : Nat) (t : ByteArray) (id2 : Nat → Int) (au2 : Nat → Int) (g2 : ByteArray) (v2 : Int) (rm2 : Bool) (md2 : Bool) (p2 : Option Addr) (n2 : Nat) (c2 : Nat) (t2 : ByteArray) (w : World) (R : Ending → World → Prop) (h : VC_xless id au g v rm md p n c t id2 au2 g2 v2 rm2 md2 p2 n2 c2 t2 w R) : Calls Tryz.prog 58 ([Value.agg
    (arrI IntKind.u8 id 32 0 ++
        (arrI IntKind.u8 au 16 0 ++
          [Value.string g, Value.int IntKind.i64 v, Value.bool rm, Value.bool md, Value.slice p n c,
            Value.string t])).toArray,
  Value.agg
    (arrI IntKind.u8 id2 32 0 ++
        (arrI IntKind.u8 au2 16 0 ++
          [Value.string g2, Value.int IntKind.i64 v2, Value.bool rm2, Value.bool md2, Value.slice p2 n2 c2,
            Value.string t2])).toArray] : List Value).toArray w R := by
  have e : execR2 { P := Tryz.prog, loops := [], pur := pur1, tails := [], joins := [], boxes := [] } Tryz.f58.results.toList R (Tryz.f58.body.getD .skip) (initF [Value.agg
    (arrI IntKind.u8 id 32 0 ++
        (arrI IntKind.u8 au 16 0 ++
          [Value.string g, Value.int IntKind.i64 v, Value.bool rm, Value.bool md, Value.slice p n c,
            Value.string t])).toArray,
  Value.agg
    (arrI IntKind.u8 id2 32 0 ++
        (arrI IntKind.u8 au2 16 0 ++
          [Value.string g2, Value.int IntKind.i64 v2, Value.bool rm2, Value.bool md2, Value.slice p2 n2 c2,
            Value.string
              t2])).toArray] (Tryz.f58.ntmps - ([Value.agg
    (arrI IntKind.u8 id 32 0 ++
        (arrI IntKind.u8 au 16 0 ++
          [Value.string g, Value.int IntKind.i64 v, Value.bool rm, Value.bool md, Value.slice p n c,
            Value.string t])).toArray,
  Value.agg
    (arrI IntKind.u8 id2 32 0 ++
        (arrI IntKind.u8 au2 16 0 ++
          [Value.string g2, Value.int IntKind.i64 v2, Value.bool rm2, Value.bool md2, Value.slice p2 n2 c2,
            Value.string
              t2])).toArray] : List Value).length)) w = VC_xless id au g v rm md p n c t id2 au2 g2 v2 rm2 md2 p2 n2 c2 t2 w R := by kernel_rfl
  have hb : Tryz.f58.body = some (Tryz.f58.body.getD .skip) := by kernel_rfl
  exact calls_of_exec2' (P := Tryz.prog) (fn := Tryz.f58) (c := Tryz.f58.body.getD .skip) (args := [Value.agg
    (arrI IntKind.u8 id 32 0 ++
        (arrI IntKind.u8 au 16 0 ++
          [Value.string g, Value.int IntKind.i64 v, Value.bool rm, Value.bool md, Value.slice p n c,
            Value.string t])).toArray,
  Value.agg
    (arrI IntKind.u8 id2 32 0 ++
        (arrI IntKind.u8 au2 16 0 ++
          [Value.string g2, Value.int IntKind.i64 v2, Value.bool rm2, Value.bool md2, Value.slice p2 n2 c2,
            Value.string t2])).toArray]) (w := w) (R := R) pur1_ok Tryz.func58 hb e h

def VC_xvers (ap : Option Addr) (an : Nat) (ac : Nat) (dp : Option Addr) (dn : Nat) (dc : Nat) (s : ByteArray) (w : World) (R : Ending → World → Prop) : Prop :=
 ∀ (n : Nat) (W : World),
 Loc w.heap.size [Blk.mk n 33 [Value.slice ap an ac, Value.slice dp dn dc] 2] w W →
 ∃ (I : List Value → World → Prop),
 ∃ (m : List Value → World → Nat),
 I [Value.int IntKind.i64 0, Value.slice none 0 0] W ∧
 ∀ (x : Int) (p : Option Addr) (n_1 c : Nat) (w' : World),
 I [Value.int IntKind.i64 x, Value.slice p n_1 c] w' →
 Loc w.heap.size [Blk.mk n 33 [Value.slice ap an ac, Value.slice dp dn dc] 0] w' w' →
 bsp (decide (x < (↑dn : Int)))
 (nn true dp fun (b o : Nat) =>
 (0 ≤ x ∧ x < (↑dn : Int)) ∧
 ∃ (x_1 : ByteArray),
 w'.cell? (Addr.mk b (o + x.toNat * 54 + 48) none) = some (Value.string x_1) ∧
 bsp (!x_1.toList == s.toList)
 (I [Value.int IntKind.i64 (IntKind.i64.wrap (x + 1)), Value.slice p n_1 c] w' ∧
 m [Value.int IntKind.i64 (IntKind.i64.wrap (x + 1)), Value.slice p n_1 c] w' <
 m [Value.int IntKind.i64 x, Value.slice p n_1 c] w')
 (∃ (I_1 : List Value → World → Prop),
 ∃ (m_1 : List Value → World → Nat),
 I_1 [Value.int IntKind.i64 (↑n_1 : Int)] w' ∧
 ∀ (x_2 : Int) (w'_1 : World),
 I_1 [Value.int IntKind.i64 x_2] w'_1 →
 Loc w.heap.size [Blk.mk n 33 [Value.slice ap an ac, Value.slice dp dn dc] 0] w'_1 w'_1 →
 ∃ (p_1 : Option Addr),
 ∃ (n_2 : Nat),
 ∃ (c_1 : Nat),
 gimp (decide (x_2 > 0))
 (∀ (W : World),
 Loc w.heap.size [Blk.mk n 33 [Value.slice ap an ac, Value.slice dp dn dc] 0] w'_1 W →
 W.cell? (Addr.mk n (0 + 1) none) = some (Value.slice p_1 n_2 c_1)) ∧
 nn (decide (x_2 > 0)) p_1 fun (b o : Nat) =>
 gimp (decide (x_2 > 0)) (0 ≤ x ∧ x < (↑n_2 : Int)) ∧
 ∃ (f : Nat → Int),
 ∃ (f_1 : Nat → Int),
 ∃ (x_3 : ByteArray),
 ∃ (x_4 : Int),
 ∃ (x_5 : Bool),
 ∃ (x_6 : Bool),
 ∃ (p_2 : Option Addr),
 ∃ (n_3 : Nat),
 ∃ (c_2 : Nat),
 ∃ (x_7 : ByteArray),
 gimp (decide (x_2 > 0))
 (∀ (W : World),
 Loc w.heap.size [Blk.mk n 33 [Value.slice ap an ac, Value.slice dp dn dc] 0] w'_1
 W →
 AtL W b (o + x.toNat * 54)
 (arrI IntKind.u8 f 32 0 ++ (arrI IntKind.u8 f_1 16 0 ++ [Value.string x_3, Value.int IntKind.i64 x_4, Value.bool x_5, Value.bool x_6,
 Value.slice p_2 n_3 c_2, Value.string x_7]))) ∧
 nn (decide (x_2 > 0)) p fun (b o : Nat) =>
 gimp (decide (x_2 > 0))
 (0 ≤ IntKind.i64.wrap (x_2 - 1) ∧ IntKind.i64.wrap (x_2 - 1) < (↑n_1 : Int)) ∧
 ∃ (f_2 : Nat → Int),
 ∃ (f_3 : Nat → Int),
 ∃ (x_8 : ByteArray),
 ∃ (x_9 : Int),
 ∃ (x_10 : Bool),
 ∃ (x_11 : Bool),
 ∃ (p_3 : Option Addr),
 ∃ (n_4 : Nat),
 ∃ (c_3 : Nat),
 ∃ (x_12 : ByteArray),
 gimp (decide (x_2 > 0))
 (∀ (W : World),
 Loc w.heap.size
 [Blk.mk n 33 [Value.slice ap an ac, Value.slice dp dn dc] 0] w'_1
 W →
 AtL W b (o + (IntKind.i64.wrap (x_2 - 1)).toNat * 54)
 (arrI IntKind.u8 f_2 32 0 ++ (arrI IntKind.u8 f_3 16 0 ++ [Value.string x_8, Value.int IntKind.i64 x_9, Value.bool x_10,
 Value.bool x_11, Value.slice p_3 n_4 c_3, Value.string x_12]))) ∧
 ∀ (W : World),
 Loc w.heap.size
 [Blk.mk n 33 [Value.slice ap an ac, Value.slice dp dn dc] 0] w'_1
 W →
 bsp (decide (x_2 > 0))
 (CallsS Tryz.prog 58
 #[Value.agg
 (arrI IntKind.u8 f 32 0 ++ (arrI IntKind.u8 f_1 16 0 ++ [Value.string x_3, Value.int IntKind.i64 x_4, Value.bool x_5,
 Value.bool x_6, Value.slice p_2 n_3 c_2, Value.string x_7])).toArray,
 Value.agg
 (arrI IntKind.u8 f_2 32 0 ++ (arrI IntKind.u8 f_3 16 0 ++ [Value.string x_8, Value.int IntKind.i64 x_9, Value.bool x_10,
 Value.bool x_11, Value.slice p_3 n_4 c_3, Value.string x_12])).toArray]
 W fun (e : Ending) (w'_2 : World) =>
 ∃ (x_13 : Bool),
 e = Ending.returned (Value.bool x_13) ∧
 KeptL [n] W w'_2 ∧
 bsp (true && x_13)
 (I_1 [Value.int IntKind.i64 (IntKind.i64.wrap (x_2 - 1))]
 w'_2 ∧
 m_1 [Value.int IntKind.i64 (IntKind.i64.wrap (x_2 - 1))]
 w'_2 <
 m_1 [Value.int IntKind.i64 x_2] w'_1)
 (∀ (n_5 : Nat),
 (0 ≤ x_2 ∧ x_2 ≤ (↑c : Int)) ∧
 ∀ (W : World),
 Loc w.heap.size
 [Blk.mk n 33 [Value.slice ap an ac, Value.slice dp dn dc]
 0,
 Blk.mk n_5 50 [] 2]
 w'_2 W →
 ∃ (base : Nat),
 ∃ (xs : List Value),
 ∃ (news : List Value),
 W.ownsRow base 50 54
 (Value.slice (some (Addr.mk n_5 0 none)) 0 0) 0 xs ∧
 news.length = x_2.toNat * 54 ∧
 SrcP W p news ∧
 0 + x_2.toNat ≤ 9223372036854775807 ∧
 (0 + x_2.toNat) * 120 ≤ 140737488355328 ∧
 base ≤ W.heap.size ∧
 ∀ (p' : Option Addr) (c' : Nat) (w'_3 : World),
 w'_3.ownsRow base 50 54
 (Value.slice p' (0 + x_2.toNat) c')
 (0 + x_2.toNat) (xs ++ news) →
 W.grownBy w'_3
 (Value.slice (some (Addr.mk n_5 0 none)) 0
 0).ownBlock →
 (0 + x_2.toNat ≤ 0 →
 p' = some (Addr.mk n_5 0 none) ∧ c' = 0) →
 KeptL [n] W w'_3 ∧
 nn true dp fun (b o : Nat) =>
 (0 ≤ x ∧ x < (↑dn : Int)) ∧
 ∃ (f : Nat → Int),
 ∃ (f_4 : Nat → Int),
 ∃ (x_14 : ByteArray),
 ∃ (x_15 : Int),
 ∃ (x_16 : Bool),
 ∃ (x_17 : Bool),
 ∃ (p_4 : Option Addr),
 ∃ (n_6 : Nat),
 ∃ (c_4 : Nat),
 ∃ (x_18 : ByteArray),
 AtL w'_3 b (o + x.toNat * 54)
 (arrI IntKind.u8 f 32 0 ++ (arrI IntKind.u8 f_4 16 0 ++ [Value.string x_14,
 Value.int IntKind.i64 x_15,
 Value.bool x_16,
 Value.bool x_17,
 Value.slice p_4 n_6 c_4,
 Value.string x_18])) ∧
 ∀ (n_7 : Nat) (W : World),
 Loc w.heap.size
 [Blk.mk n 33
 [Value.slice ap an ac,
 Value.slice dp dn dc]
 0,
 Blk.mk n_7 50
 (arrI IntKind.u8 f 32 0 ++ (arrI IntKind.u8 f_4 16 0 ++ [Value.string x_14,
 Value.int IntKind.i64
 x_15,
 Value.bool x_16,
 Value.bool x_17,
 Value.slice p_4 n_6 c_4,
 Value.string x_18]))
 2]
 w'_3 W →
 ∃ (base : Nat),
 ∃ (xs : List Value),
 W.ownsRow base 50 54
 (Value.slice p'
 (0 + x_2.toNat) c')
 (0 + x_2.toNat) xs ∧
 0 + x_2.toNat + 1 ≤
 9223372036854775807 ∧
 (0 + x_2.toNat + 1) *
 120 ≤
 140737488355328 ∧
 base ≤ W.heap.size ∧
 ∀ (p'_1 : Option Addr)
 (c'_1 : Nat)
 (w'_4 : World),
 w'_4.ownsRow base 50
 54
 (Value.slice p'_1
 (0 + x_2.toNat + 1)
 c'_1)
 (0 + x_2.toNat + 1)
 (xs ++
 (arrI IntKind.u8 f 32 0 ++ (arrI IntKind.u8 f_4 16 0 ++ [Value.string x_14,
 Value.int
 IntKind.i64 x_15,
 Value.bool x_16,
 Value.bool x_17,
 Value.slice p_4
 n_6 c_4,
 Value.string
 x_18]))) →
 W.grownBy w'_4
 (Value.slice p'
 (0 + x_2.toNat)
 c').ownBlock →
 (0 + x_2.toNat + 1 ≤
 c' →
 p'_1 = p' ∧
 c'_1 = c') →
 KeptL [n] W w'_4 ∧
 (0 ≤ x_2 ∧
 x_2 ≤
 (↑n_1 : Int)) ∧
 ∃ (base : Nat),
 ∃ (xs :
 List Value),
 ∃ (news :
 List Value),
 w'_4.ownsRow
 base 50 54
 (Value.slice
 p'_1
 (0 +
 x_2.toNat +
 1)
 c'_1)
 (0 +
 x_2.toNat +
 1)
 xs ∧
 news.length =
 (n_1 -
 x_2.toNat) *
 54 ∧
 SrcP w'_4
 (slA p c
 x_2.toNat
 54)
 news ∧
 0 +
 x_2.toNat +
 1 +
 (n_1 -
 x_2.toNat) ≤
 9223372036854775807 ∧
 (0 +
 x_2.toNat +
 1 +
 (n_1 -
 x_2.toNat)) *
 120 ≤
 140737488355328 ∧
 base ≤
 w'_4.heap.size ∧
 ∀
 (p' :
 Option
 Addr)
 (c' :
 Nat)
 (w'_5 :
 World),
 w'_5.ownsRow
 base
 50 54
 (Value.slice
 p'
 (0 +
 x_2.toNat +
 1 +
 (n_1 -
 x_2.toNat))
 c')
 (0 +
 x_2.toNat +
 1 +
 (n_1 -
 x_2.toNat))
 (xs ++
 news) →
 w'_4.grownBy
 w'_5
 (Value.slice
 p'_1
 (0 +
 x_2.toNat +
 1)
 c'_1).ownBlock →
 (0 +
 x_2.toNat +
 1 +
 (n_1 -
 x_2.toNat) ≤
 c'_1 →
 p' =
 p'_1 ∧
 c' =
 c'_1) →
 KeptL
 [n]
 w'_4
 w'_5 ∧
 I
 [Value.int
 IntKind.i64
 (IntKind.i64.wrap
 (x +
 1)),
 Value.slice
 p'
 (0 +
 x_2.toNat +
 1 +
 (n_1 -
 x_2.toNat))
 c']
 w'_5 ∧
 m
 [Value.int
 IntKind.i64
 (IntKind.i64.wrap
 (x +
 1)),
 Value.slice
 p'
 (0 +
 x_2.toNat +
 1 +
 (n_1 -
 x_2.toNat))
 c']
 w'_5 <
 m
 [Value.int
 IntKind.i64
 x,
 Value.slice
 p
 n_1
 c]
 w'))
 (KeptL [n] W W ∧
 ∀ (n_5 : Nat),
 (0 ≤ x_2 ∧ x_2 ≤ (↑c : Int)) ∧
 ∀ (W_1 : World),
 Loc w.heap.size
 [Blk.mk n 33 [Value.slice ap an ac, Value.slice dp dn dc] 0,
 Blk.mk n_5 50 [] 2]
 W W_1 →
 ∃ (base : Nat),
 ∃ (xs : List Value),
 ∃ (news : List Value),
 W_1.ownsRow base 50 54
 (Value.slice (some (Addr.mk n_5 0 none)) 0 0) 0 xs ∧
 news.length = x_2.toNat * 54 ∧
 SrcP W_1 p news ∧
 0 + x_2.toNat ≤ 9223372036854775807 ∧
 (0 + x_2.toNat) * 120 ≤ 140737488355328 ∧
 base ≤ W_1.heap.size ∧
 ∀ (p' : Option Addr) (c' : Nat) (w'_2 : World),
 w'_2.ownsRow base 50 54
 (Value.slice p' (0 + x_2.toNat) c')
 (0 + x_2.toNat) (xs ++ news) →
 W_1.grownBy w'_2
 (Value.slice (some (Addr.mk n_5 0 none)) 0
 0).ownBlock →
 (0 + x_2.toNat ≤ 0 →
 p' = some (Addr.mk n_5 0 none) ∧ c' = 0) →
 KeptL [n] W_1 w'_2 ∧
 nn true dp fun (b o : Nat) =>
 (0 ≤ x ∧ x < (↑dn : Int)) ∧
 ∃ (f : Nat → Int),
 ∃ (f_4 : Nat → Int),
 ∃ (x_13 : ByteArray),
 ∃ (x_14 : Int),
 ∃ (x_15 : Bool),
 ∃ (x_16 : Bool),
 ∃ (p_4 : Option Addr),
 ∃ (n_6 : Nat),
 ∃ (c_4 : Nat),
 ∃ (x_17 : ByteArray),
 AtL w'_2 b (o + x.toNat * 54)
 (arrI IntKind.u8 f 32 0 ++ (arrI IntKind.u8 f_4 16 0 ++ [Value.string x_13,
 Value.int IntKind.i64 x_14,
 Value.bool x_15, Value.bool x_16,
 Value.slice p_4 n_6 c_4,
 Value.string x_17])) ∧
 ∀ (n_7 : Nat) (W : World),
 Loc w.heap.size
 [Blk.mk n 33
 [Value.slice ap an ac,
 Value.slice dp dn dc]
 0,
 Blk.mk n_7 50
 (arrI IntKind.u8 f 32 0 ++ (arrI IntKind.u8 f_4 16 0 ++ [Value.string x_13,
 Value.int IntKind.i64 x_14,
 Value.bool x_15,
 Value.bool x_16,
 Value.slice p_4 n_6 c_4,
 Value.string x_17]))
 2]
 w'_2 W →
 ∃ (base : Nat),
 ∃ (xs : List Value),
 W.ownsRow base 50 54
 (Value.slice p'
 (0 + x_2.toNat) c')
 (0 + x_2.toNat) xs ∧
 0 + x_2.toNat + 1 ≤
 9223372036854775807 ∧
 (0 + x_2.toNat + 1) * 120 ≤
 140737488355328 ∧
 base ≤ W.heap.size ∧
 ∀ (p'_1 : Option Addr)
 (c'_1 : Nat)
 (w'_3 : World),
 w'_3.ownsRow base 50 54
 (Value.slice p'_1
 (0 + x_2.toNat + 1)
 c'_1)
 (0 + x_2.toNat + 1)
 (xs ++
 (arrI IntKind.u8 f 32 0 ++ (arrI IntKind.u8 f_4 16 0 ++ [Value.string x_13,
 Value.int IntKind.i64
 x_14,
 Value.bool x_15,
 Value.bool x_16,
 Value.slice p_4 n_6
 c_4,
 Value.string x_17]))) →
 W.grownBy w'_3
 (Value.slice p'
 (0 + x_2.toNat)
 c').ownBlock →
 (0 + x_2.toNat + 1 ≤
 c' →
 p'_1 = p' ∧
 c'_1 = c') →
 KeptL [n] W w'_3 ∧
 (0 ≤ x_2 ∧
 x_2 ≤
 (↑n_1 : Int)) ∧
 ∃ (base : Nat),
 ∃ (xs : List Value),
 ∃ (news :
 List Value),
 w'_3.ownsRow base
 50 54
 (Value.slice
 p'_1
 (0 +
 x_2.toNat +
 1)
 c'_1)
 (0 + x_2.toNat +
 1)
 xs ∧
 news.length =
 (n_1 -
 x_2.toNat) *
 54 ∧
 SrcP w'_3
 (slA p c
 x_2.toNat 54)
 news ∧
 0 + x_2.toNat +
 1 +
 (n_1 -
 x_2.toNat) ≤
 9223372036854775807 ∧
 (0 +
 x_2.toNat +
 1 +
 (n_1 -
 x_2.toNat)) *
 120 ≤
 140737488355328 ∧
 base ≤
 w'_3.heap.size ∧
 ∀
 (p' :
 Option
 Addr)
 (c' : Nat)
 (w'_4 :
 World),
 w'_4.ownsRow
 base 50
 54
 (Value.slice
 p'
 (0 +
 x_2.toNat +
 1 +
 (n_1 -
 x_2.toNat))
 c')
 (0 +
 x_2.toNat +
 1 +
 (n_1 -
 x_2.toNat))
 (xs ++
 news) →
 w'_3.grownBy
 w'_4
 (Value.slice
 p'_1
 (0 +
 x_2.toNat +
 1)
 c'_1).ownBlock →
 (0 +
 x_2.toNat +
 1 +
 (n_1 -
 x_2.toNat) ≤
 c'_1 →
 p' =
 p'_1 ∧
 c' =
 c'_1) →
 KeptL
 [n]
 w'_3
 w'_4 ∧
 I
 [Value.int
 IntKind.i64
 (IntKind.i64.wrap
 (x +
 1)),
 Value.slice
 p'
 (0 +
 x_2.toNat +
 1 +
 (n_1 -
 x_2.toNat))
 c']
 w'_4 ∧
 m
 [Value.int
 IntKind.i64
 (IntKind.i64.wrap
 (x +
 1)),
 Value.slice
 p'
 (0 +
 x_2.toNat +
 1 +
 (n_1 -
 x_2.toNat))
 c']
 w'_4 <
 m
 [Value.int
 IntKind.i64
 x,
 Value.slice
 p
 n_1
 c]
 w')))
 (R (Ending.returned (Value.slice p n_1 c)) w')
theorem vc_xvers (ap : Option Addr) (an : Nat) (ac : Nat) (dp : Option Addr) (dn : Nat) (dc : Nat) (s : ByteArray) (w : World) (R : Ending → World → Prop) (h : VC_xvers ap an ac dp dn dc s w R) : Calls Tryz.prog 34 ([Value.agg
    #[Value.slice ap an ac, Value.slice dp dn dc],
  Value.string s] : List Value).toArray w R := by
  have e : execR2 { P := Tryz.prog, loops := [(3, [(6, Ck.int IntKind.i64), (5, Ck.slice)]), (7, [(7, Ck.int IntKind.i64)])], pur := pur1, tails := [(7, 13)], joins := [], boxes := [] } Tryz.f34.results.toList R (Tryz.f34.body.getD .skip) (initF [Value.agg
    #[Value.slice ap an ac, Value.slice dp dn dc],
  Value.string
    s] (Tryz.f34.ntmps - ([Value.agg #[Value.slice ap an ac, Value.slice dp dn dc],
  Value.string s] : List Value).length)) w = VC_xvers ap an ac dp dn dc s w R := by kernel_rfl
  have hb : Tryz.f34.body = some (Tryz.f34.body.getD .skip) := by kernel_rfl
  exact calls_of_exec2' (P := Tryz.prog) (fn := Tryz.f34) (c := Tryz.f34.body.getD .skip) (args := [Value.agg
    #[Value.slice ap an ac, Value.slice dp dn dc],
  Value.string s]) (w := w) (R := R) pur1_ok Tryz.func34 hb e h

def VC_xcur (ap : Option Addr) (an : Nat) (ac : Nat) (dp : Option Addr) (dn : Nat) (dc : Nat) (s : ByteArray) (w : World) (R : Ending → World → Prop) : Prop :=
 ∀ (n n_1 : Nat) (W : World),
 Loc w.heap.size
 [Blk.mk n_1 50
 [Value.int IntKind.u8 0, Value.int IntKind.u8 0, Value.int IntKind.u8 0, Value.int IntKind.u8 0,
 Value.int IntKind.u8 0, Value.int IntKind.u8 0, Value.int IntKind.u8 0, Value.int IntKind.u8 0,
 Value.int IntKind.u8 0, Value.int IntKind.u8 0, Value.int IntKind.u8 0, Value.int IntKind.u8 0,
 Value.int IntKind.u8 0, Value.int IntKind.u8 0, Value.int IntKind.u8 0, Value.int IntKind.u8 0,
 Value.int IntKind.u8 0, Value.int IntKind.u8 0, Value.int IntKind.u8 0, Value.int IntKind.u8 0,
 Value.int IntKind.u8 0, Value.int IntKind.u8 0, Value.int IntKind.u8 0, Value.int IntKind.u8 0,
 Value.int IntKind.u8 0, Value.int IntKind.u8 0, Value.int IntKind.u8 0, Value.int IntKind.u8 0,
 Value.int IntKind.u8 0, Value.int IntKind.u8 0, Value.int IntKind.u8 0, Value.int IntKind.u8 0,
 Value.int IntKind.u8 0, Value.int IntKind.u8 0, Value.int IntKind.u8 0, Value.int IntKind.u8 0,
 Value.int IntKind.u8 0, Value.int IntKind.u8 0, Value.int IntKind.u8 0, Value.int IntKind.u8 0,
 Value.int IntKind.u8 0, Value.int IntKind.u8 0, Value.int IntKind.u8 0, Value.int IntKind.u8 0,
 Value.int IntKind.u8 0, Value.int IntKind.u8 0, Value.int IntKind.u8 0, Value.int IntKind.u8 0,
 Value.string (ByteArray.mk #[]), Value.int IntKind.i64 0, Value.bool false, Value.bool false,
 Value.slice none 0 0, Value.string (ByteArray.mk #[])]
 2,
 Blk.mk n 33 [Value.slice ap an ac, Value.slice dp dn dc] 2]
 w W →
 CallsS Tryz.prog 34 #[Value.agg #[Value.slice ap an ac, Value.slice dp dn dc], Value.string s] W
 fun (e : Ending) (w' : World) =>
 ∃ (p : Option Addr),
 ∃ (n_2 : Nat),
 ∃ (c : Nat),
 e = Ending.returned (Value.slice p n_2 c) ∧
 KeptL [n_1, n] W w' ∧
 nn (!(↑n_2 : Int) == 0) p fun (b o : Nat) =>
 gimp (!(↑n_2 : Int) == 0) ((0 : Int) ≤ 0 ∧ 0 < (↑n_2 : Int)) ∧
 ∃ (x : Bool),
 gimp (!(↑n_2 : Int) == 0) (w'.cell? (Addr.mk b (o + 50) none) = some (Value.bool x)) ∧
 bsp ((↑n_2 : Int) == 0 || x)
 (∀ (W : World),
 Loc w.heap.size
 [Blk.mk n_1 50
 [Value.int IntKind.u8 0, Value.int IntKind.u8 0, Value.int IntKind.u8 0, Value.int IntKind.u8 0,
 Value.int IntKind.u8 0, Value.int IntKind.u8 0, Value.int IntKind.u8 0, Value.int IntKind.u8 0,
 Value.int IntKind.u8 0, Value.int IntKind.u8 0, Value.int IntKind.u8 0, Value.int IntKind.u8 0,
 Value.int IntKind.u8 0, Value.int IntKind.u8 0, Value.int IntKind.u8 0, Value.int IntKind.u8 0,
 Value.int IntKind.u8 0, Value.int IntKind.u8 0, Value.int IntKind.u8 0, Value.int IntKind.u8 0,
 Value.int IntKind.u8 0, Value.int IntKind.u8 0, Value.int IntKind.u8 0, Value.int IntKind.u8 0,
 Value.int IntKind.u8 0, Value.int IntKind.u8 0, Value.int IntKind.u8 0, Value.int IntKind.u8 0,
 Value.int IntKind.u8 0, Value.int IntKind.u8 0, Value.int IntKind.u8 0, Value.int IntKind.u8 0,
 Value.int IntKind.u8 0, Value.int IntKind.u8 0, Value.int IntKind.u8 0, Value.int IntKind.u8 0,
 Value.int IntKind.u8 0, Value.int IntKind.u8 0, Value.int IntKind.u8 0, Value.int IntKind.u8 0,
 Value.int IntKind.u8 0, Value.int IntKind.u8 0, Value.int IntKind.u8 0, Value.int IntKind.u8 0,
 Value.int IntKind.u8 0, Value.int IntKind.u8 0, Value.int IntKind.u8 0, Value.int IntKind.u8 0,
 Value.string (ByteArray.mk #[]), Value.int IntKind.i64 0, Value.bool false, Value.bool false,
 Value.slice none 0 0, Value.string (ByteArray.mk #[])]
 (wrM 0),
 Blk.mk n 33 [Value.slice ap an ac, Value.slice dp dn dc] 0]
 w' W →
 R
 (Ending.returned
 (Value.tuple
 #[Value.agg
 #[Value.int IntKind.u8 0, Value.int IntKind.u8 0, Value.int IntKind.u8 0, Value.int IntKind.u8 0,
 Value.int IntKind.u8 0, Value.int IntKind.u8 0, Value.int IntKind.u8 0, Value.int IntKind.u8 0,
 Value.int IntKind.u8 0, Value.int IntKind.u8 0, Value.int IntKind.u8 0, Value.int IntKind.u8 0,
 Value.int IntKind.u8 0, Value.int IntKind.u8 0, Value.int IntKind.u8 0, Value.int IntKind.u8 0,
 Value.int IntKind.u8 0, Value.int IntKind.u8 0, Value.int IntKind.u8 0, Value.int IntKind.u8 0,
 Value.int IntKind.u8 0, Value.int IntKind.u8 0, Value.int IntKind.u8 0, Value.int IntKind.u8 0,
 Value.int IntKind.u8 0, Value.int IntKind.u8 0, Value.int IntKind.u8 0, Value.int IntKind.u8 0,
 Value.int IntKind.u8 0, Value.int IntKind.u8 0, Value.int IntKind.u8 0, Value.int IntKind.u8 0,
 Value.int IntKind.u8 0, Value.int IntKind.u8 0, Value.int IntKind.u8 0, Value.int IntKind.u8 0,
 Value.int IntKind.u8 0, Value.int IntKind.u8 0, Value.int IntKind.u8 0, Value.int IntKind.u8 0,
 Value.int IntKind.u8 0, Value.int IntKind.u8 0, Value.int IntKind.u8 0, Value.int IntKind.u8 0,
 Value.int IntKind.u8 0, Value.int IntKind.u8 0, Value.int IntKind.u8 0, Value.int IntKind.u8 0,
 Value.string (ByteArray.mk #[]), Value.int IntKind.i64 0, Value.bool false, Value.bool false,
 Value.slice none 0 0, Value.string (ByteArray.mk #[])],
 Value.bool false]))
 W)
 (nn true p fun (b o : Nat) =>
 ((0 : Int) ≤ 0 ∧ 0 < (↑n_2 : Int)) ∧
 ∃ (f : Nat → Int),
 ∃ (f_1 : Nat → Int),
 ∃ (x : ByteArray),
 ∃ (x_1 : Int),
 ∃ (x_2 : Bool),
 ∃ (x_3 : Bool),
 ∃ (p : Option Addr),
 ∃ (n_3 : Nat),
 ∃ (c : Nat),
 ∃ (x_4 : ByteArray),
 AtL w' b o
 (arrI IntKind.u8 f 32 0 ++ (arrI IntKind.u8 f_1 16 0 ++ [Value.string x, Value.int IntKind.i64 x_1, Value.bool x_2, Value.bool x_3,
 Value.slice p n_3 c, Value.string x_4])) ∧
 ∀ (W : World),
 Loc w.heap.size
 [Blk.mk n_1 50
 (arrI IntKind.u8 f 32 0 ++ (arrI IntKind.u8 f_1 16 0 ++ [Value.string x, Value.int IntKind.i64 x_1,
 Value.bool x_2, Value.bool x_3, Value.slice p n_3 c, Value.string x_4]))
 (wrM 0),
 Blk.mk n 33 [Value.slice ap an ac, Value.slice dp dn dc] 0]
 w' W →
 R
 (Ending.returned
 (Value.tuple
 #[Value.agg
 (arrI IntKind.u8 f 32 0 ++ (arrI IntKind.u8 f_1 16 0 ++ [Value.string x,
 Value.int IntKind.i64 x_1, Value.bool x_2, Value.bool x_3, Value.slice p n_3 c,
 Value.string x_4])).toArray,
 Value.bool true]))
 W)
theorem vc_xcur (ap : Option Addr) (an : Nat) (ac : Nat) (dp : Option Addr) (dn : Nat) (dc : Nat) (s : ByteArray) (w : World) (R : Ending → World → Prop) (h : VC_xcur ap an ac dp dn dc s w R) : Calls Tryz.prog 30 ([Value.agg
    #[Value.slice ap an ac, Value.slice dp dn dc],
  Value.string s] : List Value).toArray w R := by
  have e : execR2 { P := Tryz.prog, loops := [], pur := pur1, tails := [], joins := [], boxes := [] } Tryz.f30.results.toList R (Tryz.f30.body.getD .skip) (initF [Value.agg
    #[Value.slice ap an ac, Value.slice dp dn dc],
  Value.string
    s] (Tryz.f30.ntmps - ([Value.agg #[Value.slice ap an ac, Value.slice dp dn dc],
  Value.string s] : List Value).length)) w = VC_xcur ap an ac dp dn dc s w R := by kernel_rfl
  have hb : Tryz.f30.body = some (Tryz.f30.body.getD .skip) := by kernel_rfl
  exact calls_of_exec2' (P := Tryz.prog) (fn := Tryz.f30) (c := Tryz.f30.body.getD .skip) (args := [Value.agg
    #[Value.slice ap an ac, Value.slice dp dn dc],
  Value.string s]) (w := w) (R := R) pur1_ok Tryz.func30 hb e h

def VC_xever (ap : Option Addr) (an : Nat) (ac : Nat) (dp : Option Addr) (dn : Nat) (dc : Nat) (s : ByteArray) (a : Nat → Int) (w : World) (R : Ending → World → Prop) : Prop :=
 ∀ (n n_1 : Nat) (W : World),
 Loc w.heap.size
 [Blk.mk n_1 23
 (arrI IntKind.u8 a 16 0)
 2,
 Blk.mk n 33 [Value.slice ap an ac, Value.slice dp dn dc] 2]
 w W →
 ∃ (I : List Value → World → Prop),
 ∃ (m : List Value → World → Nat),
 I [Value.int IntKind.i64 0] W ∧
 ∀ (x : Int) (w' : World),
 I [Value.int IntKind.i64 x] w' →
 Loc w.heap.size
 [Blk.mk n_1 23
 (arrI IntKind.u8 a 16 0)
 0,
 Blk.mk n 33 [Value.slice ap an ac, Value.slice dp dn dc] 0]
 w' w' →
 bsp (decide (x < (↑dn : Int)))
 (∃ (I_1 : List Value → World → Prop),
 ∃ (m_1 : List Value → World → Nat),
 I_1 [Value.int IntKind.i64 0] w' ∧
 ∀ (x_1 : Int) (w'_1 : World),
 I_1 [Value.int IntKind.i64 x_1] w'_1 →
 Loc w.heap.size
 [Blk.mk n_1 23
 (arrI IntKind.u8 a 16 0)
 0,
 Blk.mk n 33 [Value.slice ap an ac, Value.slice dp dn dc] 0]
 w'_1 w'_1 →
 nn true dp fun (b o : Nat) =>
 (0 ≤ x ∧ x < (↑dn : Int)) ∧
 ∃ (p : Option Addr),
 ∃ (n_2 : Nat),
 ∃ (c : Nat),
 w'_1.cell? (Addr.mk b (o + x.toNat * 54 + 52) none) = some (Value.slice p n_2 c) ∧
 bsp (decide (x_1 < (↑n_2 : Int)))
 (nn true dp fun (b o : Nat) =>
 (0 ≤ x ∧ x < (↑dn : Int)) ∧
 ∃ (x_2 : ByteArray),
 (∀ (W : World),
 Loc w.heap.size
 [Blk.mk n_1 23
 (arrI IntKind.u8 a 16 0)
 0,
 Blk.mk n 33 [Value.slice ap an ac, Value.slice dp dn dc] 0]
 w'_1 W →
 W.cell? (Addr.mk b (o + x.toNat * 54 + 48) none) = some (Value.string x_2)) ∧
 ∃ (p : Option Addr),
 ∃ (n_3 : Nat),
 ∃ (c : Nat),
 gimp (x_2.toList == s.toList)
 (∀ (W : World),
 Loc w.heap.size
 [Blk.mk n_1 23
 (arrI IntKind.u8 a 16 0)
 0,
 Blk.mk n 33 [Value.slice ap an ac, Value.slice dp dn dc] 0]
 w'_1 W →
 W.cell? (Addr.mk n (0 + 1) none) = some (Value.slice p n_3 c)) ∧
 nn (x_2.toList == s.toList) p fun (b o : Nat) =>
 gimp (x_2.toList == s.toList) (0 ≤ x ∧ x < (↑n_3 : Int)) ∧
 ∃ (p : Option Addr),
 ∃ (n_4 : Nat),
 ∃ (c : Nat),
 gimp (x_2.toList == s.toList)
 (∀ (W : World),
 Loc w.heap.size
 [Blk.mk n_1 23
 (arrI IntKind.u8 a 16 0)
 0,
 Blk.mk n 33 [Value.slice ap an ac, Value.slice dp dn dc] 0]
 w'_1 W →
 W.cell? (Addr.mk b (o + x.toNat * 54 + 52) none) = some (Value.slice p n_4 c)) ∧
 nn (x_2.toList == s.toList) p fun (b o : Nat) =>
 gimp (x_2.toList == s.toList) (0 ≤ x_1 ∧ x_1 < (↑n_4 : Int)) ∧
 ∃ (f : Nat → Int),
 gimp (x_2.toList == s.toList)
 (∀ (W : World),
 Loc w.heap.size
 [Blk.mk n_1 23
 (arrI IntKind.u8 a 16 0)
 0,
 Blk.mk n 33 [Value.slice ap an ac, Value.slice dp dn dc] 0]
 w'_1 W →
 AtL W b (o + x_1.toNat * 16)
 (arrI IntKind.u8 f 16 0)) ∧
 ∃ (r : Bool),
 gimp (x_2.toList == s.toList)
 (EqP Tryz.prog 23
 (Value.agg
 (arrI IntKind.u8 f 16 0).toArray)
 (Value.agg
 (arrI IntKind.u8 a 16 0).toArray)
 r) ∧
 bsp (x_2.toList == s.toList && r)
 (∀ (W : World),
 Loc w.heap.size
 [Blk.mk n_1 23
 (arrI IntKind.u8 a 16 0)
 0,
 Blk.mk n 33 [Value.slice ap an ac, Value.slice dp dn dc] 0]
 w'_1 W →
 R (Ending.returned (Value.bool true)) W)
 (∀ (W : World),
 Loc w.heap.size
 [Blk.mk n_1 23
 (arrI IntKind.u8 a 16 0)
 0,
 Blk.mk n 33 [Value.slice ap an ac, Value.slice dp dn dc] 0]
 w'_1 W →
 I_1 [Value.int IntKind.i64 (IntKind.i64.wrap (x_1 + 1))] W ∧
 m_1 [Value.int IntKind.i64 (IntKind.i64.wrap (x_1 + 1))] W <
 m_1 [Value.int IntKind.i64 x_1] w'_1))
 (I [Value.int IntKind.i64 (IntKind.i64.wrap (x + 1))] w'_1 ∧
 m [Value.int IntKind.i64 (IntKind.i64.wrap (x + 1))] w'_1 < m [Value.int IntKind.i64 x] w'))
 (R (Ending.returned (Value.bool false)) w')
theorem vc_xever (ap : Option Addr) (an : Nat) (ac : Nat) (dp : Option Addr) (dn : Nat) (dc : Nat) (s : ByteArray) (a : Nat → Int) (w : World) (R : Ending → World → Prop) (h : VC_xever ap an ac dp dn dc s a w R) : Calls Tryz.prog 21 ([Value.agg
    #[Value.slice ap an ac, Value.slice dp dn dc],
  Value.string s, Value.agg (arrI IntKind.u8 a 16 0).toArray] : List Value).toArray w R := by
  have e : execR2 { P := Tryz.prog, loops := [(2, [(7, Ck.int IntKind.i64)]), (5, [(8, Ck.int IntKind.i64)])], pur := pur1, tails := [], joins := [], boxes := [] } Tryz.f21.results.toList R (Tryz.f21.body.getD .skip) (initF [Value.agg
    #[Value.slice ap an ac, Value.slice dp dn dc],
  Value.string s,
  Value.agg
    (arrI IntKind.u8 a 16
        0).toArray] (Tryz.f21.ntmps - ([Value.agg #[Value.slice ap an ac, Value.slice dp dn dc], Value.string s,
  Value.agg
    (arrI IntKind.u8 a 16 0).toArray] : List Value).length)) w = VC_xever ap an ac dp dn dc s a w R := by kernel_rfl
  have hb : Tryz.f21.body = some (Tryz.f21.body.getD .skip) := by kernel_rfl
  exact calls_of_exec2' (P := Tryz.prog) (fn := Tryz.f21) (c := Tryz.f21.body.getD .skip) (args := [Value.agg
    #[Value.slice ap an ac, Value.slice dp dn dc],
  Value.string s, Value.agg (arrI IntKind.u8 a 16 0).toArray]) (w := w) (R := R) pur1_ok Tryz.func21 hb e h

end Go.Proofs.YtkkfnlehlkiejaaGreatDoor

/- Chapter 21: the contracts of the reference's less, Versions, Current; what is in force. Lists that are not too long. -/
namespace Go.Proofs.YtkkfnlehlkiejaaGreatDoor
open Go.RowKit Go.Maps

/-! ### Plain -/
def verF (ds : List DX) (s : ByteArray) : List DX := ds.filter fun y => decide (y.d.g = s)
theorem verF_snoc {L : List DX} {i : Nat} {y : DX} (h : L[i]? = some y) (s : ByteArray) : verF (L.take (i + 1)) s = verF (L.take i) s ++ (if y.d.g = s then [y] else []) := by
  unfold verF
  rw [take_snoc h, List.filter_append, List.filter_cons]
  by_cases hd : y.d.g = s
  · rw [if_pos (by simpa using hd), if_pos hd]; rfl
  · rw [if_neg (by simpa using hd), if_neg hd]; rfl
theorem ver_ins {out : List DX} {x : DX} {a : Nat} (hs : out.Pairwise fun x y => ¬ cfP y x < 0) (hi : ∀ (j : Nat) (y : DX), a ≤ j → out[j]? = some y → cfP x y < 0) (lo : ∀ y, 0 < a → out[a - 1]? = some y → ¬ cfP x y < 0) (ha : a ≤ out.length) :
    (out.take a ++ x :: out.drop a).Pairwise fun x y => ¬ cfP y x < 0 := by
  have hlow : ∀ y ∈ out.take a, ¬ cfP x y < 0 := fun y hy => by
    obtain ⟨j, hj⟩ := List.getElem?_of_mem hy
    rw [List.getElem?_take] at hj
    split at hj
    · rename_i hja
      have hlt : a - 1 < out.length := by omega
      have hz := lo out[a - 1] (by omega) (List.getElem?_eq_getElem hlt)
      rcases Nat.lt_or_ge j (a - 1) with h | h
      · have hjl : j < out.length := by omega
        rw [List.getElem?_eq_getElem hjl] at hj
        cases hj
        have h2 := List.pairwise_iff_getElem.1 hs j (a - 1) hjl hlt h
        intro h3
        have h4 := cfP_ord.anti out[a - 1] out[j]
        rcases Int.lt_or_eq_of_le (show cfP out[j] out[a - 1] ≤ 0 by omega) with h5 | h5
        · exact hz (cfP_ord.tlt _ _ _ h3 h5)
        · exact hz (cfP_ord.le _ _ _ h3 h5)
      · have : j = a - 1 := by omega
        subst this
        rw [List.getElem?_eq_getElem hlt] at hj
        cases hj
        exact hz
    · cases hj
  have hhi : ∀ y ∈ out.drop a, cfP x y < 0 := fun y hy => by
    obtain ⟨j, hj⟩ := List.getElem?_of_mem hy
    rw [List.getElem?_drop] at hj
    exact hi _ y (by omega) hj
  have hsp := hs
  rw [← List.take_append_drop a out, List.pairwise_append] at hsp
  rw [List.pairwise_append]
  refine ⟨hsp.1, List.pairwise_cons.2 ⟨fun y hy => ?_, hsp.2.1⟩, fun u hu v hv => ?_⟩
  · have h1 := hhi y hy
    have h2 := cfP_ord.anti x y
    omega
  · rcases List.mem_cons.1 hv with rfl | hv
    · exact hlow u hu
    · exact hsp.2.2 u hu v hv
theorem perm_uniq21 {α : Type} {R : α → α → Prop} : ∀ {l1 l2 : List α}, l1.Perm l2 → l1.Pairwise R → l2.Pairwise R → (∀ a ∈ l1, ∀ b ∈ l1, R a b → R b a → a = b) → l1 = l2
  | [], l2, hp, _, _, _ => (List.nil_perm.1 hp).symm
  | a :: r, [], hp, _, _, _ => by have := hp.length_eq; simp at this
  | a :: r, b :: s, hp, h1, h2, anti => by
    have hab : a = b := Classical.byContradiction fun hne => by
      have h3 : a ∈ s := by
        rcases List.mem_cons.1 (hp.subset List.mem_cons_self) with h | h
        · exact absurd h hne
        · exact h
      have h4 : b ∈ r := by
        rcases List.mem_cons.1 (hp.symm.subset List.mem_cons_self) with h | h
        · exact absurd h.symm hne
        · exact h
      exact hne (anti a List.mem_cons_self b (List.mem_cons_of_mem _ h4) ((List.pairwise_cons.1 h1).1 b h4) ((List.pairwise_cons.1 h2).1 a h3))
    subst hab
    rw [perm_uniq21 (List.Perm.cons_inv hp) (List.pairwise_cons.1 h1).2 (List.pairwise_cons.1 h2).2 fun x hx y hy => anti x (List.mem_cons_of_mem _ hx) y (List.mem_cons_of_mem _ hy)]
theorem u8_inj {x y : Int} (hx : 0 ≤ x ∧ x ≤ 255) (hy : 0 ≤ y ∧ y ≤ 255) (h : x.toNat.toUInt8 = y.toNat.toUInt8) : x = y := by
  have h1 : x.toNat.toUInt8.toNat = y.toNat.toUInt8.toNat := by rw [h]
  rw [UInt8.toNat_ofNat', UInt8.toNat_ofNat'] at h1
  omega
theorem idB_inj {f g : Nat → Int} (hf : BY f) (hg : BY g) (h : idB f = idB g) : idI f = idI g := by
  apply List.ext_getElem?
  intro j
  by_cases hj : j < 32
  · rw [idI_get f hj, idI_get g hj]
    have h1 := congrArg (fun z => z[j]?) h
    simp only [idB, List.getElem?_map, idI_get f hj, idI_get g hj, Option.map_some, Option.some.injEq] at h1
    rw [u8_inj (hf j) (hg j) h1]
  · rw [List.getElem?_eq_none (by simp [idI]; omega), List.getElem?_eq_none (by simp [idI]; omega)]
theorem cfd_zero {a b : Df} (ha : a.OK) (hb : b.OK) (h : cfd a b = 0) : idI a.id = idI b.id := by
  unfold cfd cfD at h
  split at h
  · exact absurd h (by assumption)
  unfold cfP at h
  split at h
  · exact absurd h (by assumption)
  exact idB_inj ha.id hb.id (cb_zero _ _ h)
theorem cfd_anti (a b : Df) : cfd a b = - cfd b a := cfD_ord.anti ⟨a, none, 0⟩ ⟨b, none, 0⟩
section
variable {l : List (List Int × DX)} {ds : List DX}
theorem pair_same {l : List (List Int × DX)} (h : l.Pairwise fun p q => p.1 ≠ q.1) {p q : List Int × DX} (hp : p ∈ l) (hq : q ∈ l) (he : p.1 = q.1) : p = q := by
  obtain ⟨i, hi, e1⟩ := List.getElem_of_mem hp
  obtain ⟨j, hj, e2⟩ := List.getElem_of_mem hq
  rcases Nat.lt_trichotomy i j with h1 | h1 | h1
  · have := List.pairwise_iff_getElem.1 h i j hi hj h1
    rw [e1, e2] at this
    exact absurd he this
  · subst h1; rw [← e1, ← e2]
  · have := List.pairwise_iff_getElem.1 h j i hj hi h1
    rw [e1, e2] at this
    exact absurd he.symm this
theorem DL.uniq (h : DL l ds) {a b : DX} (ha : a ∈ ds) (hb : b ∈ ds) (he : idI a.d.id = idI b.d.id) : a.d = b.d := by
  obtain ⟨i, hi⟩ := List.getElem?_of_mem ha
  obtain ⟨j, hj⟩ := List.getElem?_of_mem hb
  obtain ⟨x, h1, h2⟩ := h.at hi
  obtain ⟨y, h3, h4⟩ := h.at hj
  have := pair_same h.dis (List.mem_of_getElem? h1) (List.mem_of_getElem? h3) he
  have e : x = y := (Prod.mk.inj this).2
  rw [← h2, ← h4, e]
theorem DL.acc (h : DL l ds) (P : Df → Bool) : accL (fun x => P x.d) l = (ds.filter fun y => P y.d).map fun y => y.d := by
  have e1 : accL (fun x => P x.d) l = ((l.map (·.2)).map (fun x : DX => x.d)).filter P := by simp only [accL, List.filter_map, Function.comp_def]
  have e2 : (ds.filter fun y => P y.d).map (fun y => y.d) = (ds.map fun y => y.d).filter P := by rw [List.filter_map]; rfl
  rw [e1, e2, h.eq, List.map_map]; rfl
/-- What the program lists of a group is what the reference lists. -/
theorem DL.vers (h : DL l ds) (hok : ∀ y ∈ ds, y.d.OK) {s : ByteArray} {cs out : List DX} (hV : VerL l s cs) (hp : out.Perm (verF ds s)) (hs : out.Pairwise fun x y => ¬ cfP y x < 0) : cs.map (fun x => x.d) = out.map fun x => x.d := by
  have hacc := h.acc (fun d => decide (d.g = s))
  have hpc : (cs.map fun x => x.d).Perm ((verF ds s).map fun x => x.d) := by
    have := hV.1
    rw [hacc] at this
    exact this
  have hpo : (out.map fun x => x.d).Perm ((verF ds s).map fun x => x.d) := hp.map _
  have hgo : ∀ x ∈ out, x.d.g = s := fun x hx => by
    have := (List.mem_filter.1 (hp.subset hx)).2
    simpa using this
  refine perm_uniq21 (R := fun a b => ¬ cfd b a < 0) (hpc.trans hpo.symm) ?_ ?_ ?_
  · rw [List.pairwise_map]; exact hV.2
  · rw [List.pairwise_map]
    refine (List.pairwise_iff_getElem.2 fun i j hi hj hij => ?_)
    have h1 := List.pairwise_iff_getElem.1 hs i j hi hj hij
    have e1 := hgo out[i] (List.getElem_mem hi)
    have e2 := hgo out[j] (List.getElem_mem hj)
    show ¬ cfD out[j] out[i] < 0
    have e3 : cfG out[j] out[i] = 0 := by unfold cfG; rw [e1, e2]; exact cb_self _
    unfold cfD
    rw [if_neg (by rw [e3]; decide)]
    exact h1
  · intro a ha b hb h1 h2
    have ha := hpc.subset ha
    have hb := hpc.subset hb
    obtain ⟨x, hx, rfl⟩ := List.mem_map.1 ha
    obtain ⟨y, hy, rfl⟩ := List.mem_map.1 hb
    have hx := (List.mem_filter.1 hx).1
    have hy := (List.mem_filter.1 hy).1
    have h3 := cfd_anti x.d y.d
    exact h.uniq hx hy (cfd_zero (hok x hx) (hok y hy) (by omega))
end
/-- What is in force, of the definitions in the order in which they prevail. -/
def headD (L : List Df) : Option Df := match L with | d :: _ => if d.rm = true then none else some d | [] => none
theorem headC_d (cs : List DX) : (headC cs).map (fun x => x.d) = headD (cs.map fun x => x.d) := by
  cases cs with
  | nil => rfl
  | cons x r =>
    show (if x.d.rm = true then none else some x : Option DX).map _ = if x.d.rm = true then none else some x.d
    split <;> rfl
theorem headC_is (cs : List DX) : (headC cs).isSome = (headD (cs.map fun x => x.d)).isSome := by rw [← headC_d, Option.isSome_map]
theorem headC_get (cs : List DX) : ((headC cs).getD dxz).d = (headD (cs.map fun x => x.d)).getD dz := by
  rw [← headC_d]
  cases headC cs <;> rfl
theorem headC_mem {cs : List DX} {x : DX} (h : headC cs = some x) : x ∈ cs := by
  cases cs with
  | nil => cases h
  | cons y r =>
    have h : (if y.d.rm = true then none else some y) = some x := h
    split at h
    · cases h
    · cases h; simp

/-! ### The reference -/
theorem idB_bytes {w : World} {n : Nat} {f : Nat → Int} (hf : BY f) (h : AtL w n 0 (arrI .u8 f 32 0)) : (⟨(idB f).toArray⟩ : ByteArray).size = 32 ∧ BytesP w (some ⟨n, 0, none⟩) ⟨(idB f).toArray⟩ := by
  have hl : (idB f).length = 32 := by simp [idB, idI]
  refine ⟨by show (idB f).toArray.size = 32; simpa using hl, ⟨.inr ⟨n, 0, rfl, ?_⟩⟩⟩
  have : byteCells ⟨(idB f).toArray⟩ = arrI .u8 f 32 0 := by
    unfold byteCells
    show (idB f).map _ = _
    rw [arrI_idI, idB, List.map_map]
    refine List.map_congr_left fun x hx => ?_
    have := idI_bd hf x hx
    show Value.int .u8 ((x.toNat.toUInt8).toNat : Int) = .int .u8 x
    rw [UInt8.toNat_ofNat']
    congr 1
    omega
  rw [this]
  exact h.h
set_option maxRecDepth 100000 in
theorem xless_any (x y : DX) (w : World) (ox : x.d.OK) (oy : y.d.OK) :
    Calls Tryz.prog 58 #[dfV x, dfV y] w fun e w' => e = .returned (.bool (decide (cfP x y < 0))) ∧ K0 w w' := by
  refine vc_xless x.d.id x.d.au x.d.g x.d.v x.d.rm x.d.md x.p x.d.ms.length x.c x.d.tx y.d.id y.d.au y.d.g y.d.v y.d.rm y.d.md y.p y.d.ms.length y.c y.d.tx w _ (fun n1 n2 => bsp_intro (fun h => fun W hW => ?_) (fun h => fun W hW => ?_))
  · have h : x.d.v ≠ y.d.v := by simpa using h
    have e : decide (x.d.v > y.d.v) = decide (cfP x y < 0) := by
      unfold cfP cfV
      by_cases h1 : y.d.v < x.d.v
      · rw [if_pos h1]; simp [h1]
      · rw [if_neg h1, if_pos (show x.d.v < y.d.v by omega)]
        simp
        omega
    rw [e]
    exact ⟨rfl, hW.kk rfl⟩
  · have h : x.d.v = y.d.v := by simpa using h
    refine ⟨⟨(idB x.d.id).toArray⟩, idB_bytes ox.id (AtL_block (hW.cells 1 rfl) rfl), ⟨(idB y.d.id).toArray⟩, idB_bytes oy.id (AtL_block (hW.cells 0 rfl) rfl), ?_, hW.kk rfl⟩
    have e1 : ∀ l : List UInt8, (⟨l.toArray⟩ : ByteArray).toList = l := fun l => by rw [ByteArray.toList_eq]
    have e2 : cfP x y = Lib.compareBytes (idB x.d.id) (idB y.d.id) := by
      unfold cfP cfV
      rw [if_neg (by rw [h]; simp)]
    rw [e1, e1, bl_cb, e2]
theorem ins_flat21 (out : List DX) (y : DX) (a : Nat) : (out.flatMap dfC).take (a * 54) ++ dfC y ++ (out.flatMap dfC).drop (a * 54) = (out.take a ++ y :: out.drop a).flatMap dfC := by
  rw [take_flat dfC 54 out a (fun y _ => dfC_length y), drop_flat dfC 54 out a (fun y _ => dfC_length y)]
  simp
set_option maxRecDepth 100000 in
set_option maxHeartbeats 8000000 in
theorem xvers_any (A : List Au) (ap : Option Addr) (ac : Nat) (L : List DX) (p : Option Addr) (c : Nat) (s : ByteArray) (w : World) (hR : SR w L p c) (hl : L.length ≤ 1000000) :
    Calls Tryz.prog 34 #[.agg #[.slice ap A.length ac, .slice p L.length c], .string s] w fun e w' => (∃ (out : List DX) (q : Option Addr) (d : Nat), e = .returned (.slice q out.length d) ∧
      w'.ownsRow w.heap.size 50 54 (.slice q out.length d) out.length (out.flatMap dfC) ∧ out.Perm (verF L s) ∧ out.Pairwise fun x y => ¬ cfP y x < 0) ∧ K0 w w' := by
  refine vc_xvers ap A.length ac p L.length c s w _ (fun n1 W hW => ?_)
  have kW : K0 w W := hW.kk rfl
  have hw1 := block_lt (hW.cells 0 rfl)
  simp only at hw1
  have hRW := hR.k0 kW
  have one : ∀ (l : List DX) (u : Value), u ∈ l.flatMap dfC → u.oneCell' = true := fun l u hu => by obtain ⟨z, _, hz⟩ := List.mem_flatMap.1 hu; exact dfC_one z u hz
  refine ⟨fun vs w' => ∃ (i : Nat) (out : List DX) (q : Option Addr) (d : Nat), vs = [.int .i64 (i : Int), .slice q out.length d] ∧ i ≤ L.length ∧ out.Perm (verF (L.take i) s) ∧ (out.Pairwise fun x y => ¬ cfP y x < 0) ∧ out.length ≤ i ∧
      w'.ownsRow W.heap.size 50 54 (.slice q out.length d) out.length (out.flatMap dfC) ∧ K0 W w',
    fun vs _ => (match vs with | .int _ a :: _ => L.length - a.toNat | _ => 0), ⟨0, [], none, 0, rfl, by omega, .refl _, .nil, by simp, World.ownsRow_nil _ _ _ _, .refl _ _⟩, ?_⟩
  rintro x p0 m0 d0 w2 ⟨i, out, q, d, hv, hi, hperm, hpw, hoi, ho2, k2⟩ hL2
  simp only [List.cons.injEq, Value.int.injEq, Value.slice.injEq, true_and, and_true] at hv
  obtain ⟨rfl, rfl, rfl, rfl⟩ := hv
  have hb1 : w2.heap[n1]? = some (.cells #[.slice ap A.length ac, .slice p L.length c] 33 (0, 0)) := hL2.cells 0 rfl
  refine bsp_intro (fun hlt => ?_) (fun hge => ?_)
  rotate_left
  · have hi : i = L.length := by simp at hge; omega
    rw [hi, List.take_length] at hperm
    exact ⟨⟨out, p0, d0, rfl, own_base ho2 kW.size, hperm, hpw⟩, kW.trans k2⟩
  have hlt : i < L.length := by simp at hlt; omega
  obtain ⟨y, b, o, hy, hp, hat⟩ := (hRW.k0 k2).row.get hlt
  have hcg : w2.cell? ⟨b, o + i * 54 + 48, none⟩ = some (.string y.d.g) := hat.cell (j := 48) rfl
  have oy := (hR.ok y (List.mem_of_getElem? hy)).2.2
  refine nn_is hp ⟨⟨by omega, by omega⟩, y.d.g, by rw [Int.toNat_natCast]; exact hcg, bsp_intro (fun h => ?_) (fun h => ?_)⟩
  · rw [str_beq] at h
    have h : ¬ y.d.g = s := by simpa using h
    refine ⟨⟨i + 1, out, p0, d0, by rw [inc64 (by omega)], by omega, ?_, hpw, by omega, ho2, k2⟩, by rw [inc64 (by omega)]; simp only [Int.toNat_natCast]; omega⟩
    rw [verF_snoc hy, if_neg h, List.append_nil]; exact hperm
  rw [str_beq] at h
  have hgs : y.d.g = s := by simpa using h
  have hok : ∀ z ∈ out, z.d.OK := fun z hz => by
    have h1 := (List.mem_filter.1 (hperm.subset hz)).1
    exact (hR.ok z (List.mem_of_mem_take h1)).2.2
  have hle := own_le ho2
  refine ⟨fun vs w' => ∃ a : Nat, vs = [.int .i64 (a : Int)] ∧ a ≤ out.length ∧ (∀ (j : Nat) (z : DX), a ≤ j → out[j]? = some z → cfP y z < 0) ∧ K0 w2 w',
    fun vs _ => (match vs with | .int _ a :: _ => a.toNat | _ => 0), ⟨out.length, rfl, Nat.le_refl _, (fun j z h1 h2 => by have := (List.getElem?_eq_some_iff.1 h2).1; omega), .refl _ _⟩, ?_⟩
  rintro x2 w3 ⟨a, hv, ha, hhi, k3⟩ hL3
  simp only [List.cons.injEq, Value.int.injEq, true_and, and_true] at hv
  subst hv
  have ho3 := owns_kp ho2 k3 (fun _ _ h => h)
  have k03 := k2.trans k3
  have hRy : ∀ wx : World, K0 W wx → AtL wx b (o + i * 54) (dfC y) := fun wx k => by
    obtain ⟨b', o', hp', h'⟩ := (hRW.k0 k).row i y hy
    rw [hp] at hp'
    cases hp'
    exact h'
  simp only [Int.toNat_natCast, Nat.zero_add]
  rcases Nat.eq_zero_or_pos a with h0 | h0
  have hlo : ∀ z, 0 < a → out[a - 1]? = some z → ¬ cfP y z < 0 := fun z h => by omega
  rw [show decide ((a : Int) > 0) = false by rw [h0]; rfl]
  refine ⟨none, 0, 0, gimp_intro (fun h => by cases h), nn_off (fun b8 o8 => ⟨gimp_intro (fun h => by cases h), fun _ => 0, fun _ => 0, ⟨#[]⟩, 0, false, false, none, 0, 0, ⟨#[]⟩, gimp_intro (fun h => by cases h), nn_off (fun b9 o9 => ⟨gimp_intro (fun h => by cases h), fun _ => 0, fun _ => 0, ⟨#[]⟩, 0, false, false, none, 0, 0, ⟨#[]⟩, gimp_intro (fun h => by cases h), fun Wz hWz => bsp_intro (fun h => by cases h) (fun _ => ⟨.refl _ _, ?_⟩)⟩)⟩)⟩
  have kz : K0 w2 Wz := k3.trans (hWz.kk rfl)
  have hoz := owns_kp ho3 (hWz.kk rfl : K0 w3 Wz) (fun _ _ h => h)
  clear hWz b8 o8 b9 o9 ho3 hL3 k03 k3 h0
  rotate_left
  have ha1 : a - 1 < out.length := by omega
  obtain ⟨z, hz⟩ : ∃ z, out[a - 1]? = some z := ⟨_, List.getElem?_eq_getElem ha1⟩
  have eA : IntKind.i64.wrap ((a : Int) - 1) = ((a - 1 : Nat) : Int) := by rw [wr64 (by omega) (by omega)]; omega
  obtain ⟨g, hg, hatz⟩ := own_at dfC ho3 (fun y _ => dfC_length y) (by decide) hz
  rw [Nat.zero_add] at hatz
  rw [eA]
  refine ⟨p, L.length, c, gimp_intro fun _ W4 hW4 => cell_at (hW4.cells 0 rfl) rfl, nn_is hp ⟨gimp_intro fun _ => ⟨by omega, by omega⟩, y.d.id, y.d.au, y.d.g, y.d.v, y.d.rm, y.d.md, y.p, y.d.ms.length, y.c, y.d.tx, gimp_intro fun _ W4 hW4 => hRy W4 (k03.trans (hW4.kk rfl)), nn_is hg ⟨gimp_intro fun _ => ⟨by omega, by omega⟩, z.d.id, z.d.au, z.d.g, z.d.v, z.d.rm, z.d.md, z.p, z.d.ms.length, z.c, z.d.tx, gimp_intro fun _ W4 hW4 => (by rw [Int.toNat_natCast, Nat.zero_add]; exact hatz.k0 (hW4.kk rfl)), fun W4 hW4 => bsp_intro (fun _ => ?_) (fun h => by simp at h; omega)⟩⟩⟩
  have k4 : K0 w3 W4 := hW4.kk rfl
  refine ⟨(xless_any y z W4 oy (hok z (List.mem_of_getElem? hz))).mono fun e Wz ⟨he, kl⟩ => ⟨_, he, .of_k0 kl, bsp_intro (fun h => ?_) (fun h => ?_)⟩⟩
  · have hzy : cfP y z < 0 := by simpa using h
    refine ⟨⟨a - 1, rfl, by omega, fun j u hj hu => ?_, k3.trans (k4.trans kl)⟩, by simp only [Int.toNat_natCast]; omega⟩
    by_cases e : j = a - 1
    · subst e; rw [hz] at hu; cases hu; exact hzy
    · exact hhi j u (by omega) hu
  have hlo : ∀ u, 0 < a → out[a - 1]? = some u → ¬ cfP y u < 0 := fun u _ hu => by
    rw [hz] at hu
    cases hu
    simpa using h
  have kz : K0 w2 Wz := k3.trans (k4.trans kl)
  have hoz := owns_kp ho3 (k4.trans kl) (fun _ _ h => h)
  clear h0 h hz hatz hg hW4 ho3 hL3 k03 k3 k4 kl he
  rotate_left
  all_goals
    intro n5
    refine ⟨⟨by omega, by omega⟩, fun W4 hW4 => ?_⟩
    have k4 : K0 Wz W4 := hW4.kk rfl
    have g4 : Wz.heap.size ≤ n5 := hW4.fresh 1 rfl rfl
    have hn1 : n1 < Wz.heap.size := Nat.lt_of_lt_of_le hw1 (k2.trans kz).size
    have ho4 := owns_kp hoz k4 (fun _ _ h => h)
    have hlen := ho4.1
    refine ⟨Wz.heap.size, [], (out.flatMap dfC).take (a * 54), own_none g4 (hW4.cells 1 rfl), by rw [List.length_take, hlen]; exact Nat.min_eq_left (Nat.mul_le_mul_right _ ha), src_take ho4 (one out) _, by omega, by omega, k4.size, fun p5 c5 w5 ho5 hg5 _ => ?_⟩
    rw [List.nil_append] at ho5
    have k5 : K0 Wz w5 := k4.fresh (kp_grown hg5) (fun j hj e => by have := own_n e; omega)
    have hoo : ∀ k, (Value.slice p0 out.length d0).ownBlock = some k → k < Wz.heap.size := fun k e => own_lt hoz e
    have ho5' := owns_kp ho4 (kp_grown hg5) (fun k hk e => by have := own_n e; have := hoo k hk; omega)
    refine ⟨⟨(kp_grown hg5).size, fun z hz hlt => (kp_grown hg5).block z hlt (fun e => by have := own_n e; simp at hz; omega)⟩, nn_is hp ⟨⟨by omega, by omega⟩, y.d.id, y.d.au, y.d.g, y.d.v, y.d.rm, y.d.md, y.p, y.d.ms.length, y.c, y.d.tx, hRy w5 ((k2.trans kz).trans k5), fun n6 W6 hW6 => ?_⟩⟩
    have k6 : K0 w5 W6 := hW6.kk rfl
    have ho6 := owns_kp ho5 k6 (fun _ _ h => h)
    refine ⟨Wz.heap.size, _, ho6, by omega, by omega, (k5.trans k6).size, fun p7 c7 w7 ho7 hg7 _ => ?_⟩
    have ho7 : w7.ownsRow Wz.heap.size 50 54 (.slice p7 (a + 1) c7) (a + 1) ((out.flatMap dfC).take (a * 54) ++ dfC y) := ho7
    have k7 : K0 Wz w7 := (k5.trans k6).fresh (kp_grown hg7) (fun j hj e => by have := own_ge ho6 e; omega)
    have ho7' := owns_kp (owns_kp ho5' k6 (fun _ _ h => h)) (kp_grown hg7) (fun k hk e => by have := own_ge ho6 e; have := hoo k hk; omega)
    refine ⟨⟨(kp_grown hg7).size, fun z hz hlt => (kp_grown hg7).block z hlt (fun e => by have := own_ge ho6 e; simp at hz; omega)⟩, ⟨by omega, by omega⟩, Wz.heap.size, _, (out.flatMap dfC).drop (a * 54), ho7, by rw [List.length_drop, hlen, Nat.sub_mul], src_drop ho7' (one out) ha, by omega, by omega, k7.size, fun p8 c8 w8 ho8 hg8 _ => ?_⟩
    have k8 : K0 Wz w8 := k7.fresh (kp_grown hg8) (fun j hj e => by have := own_ge ho7 e; omega)
    have em : (out.take a ++ y :: out.drop a).length = a + 1 + (out.length - a) := by rw [List.length_append, List.length_take, List.length_cons, List.length_drop]; omega
    rw [ins_flat21, ← em] at ho8
    rw [← em]
    refine ⟨⟨(kp_grown hg8).size, fun z hz hlt => (kp_grown hg8).block z hlt (fun e => by have := own_ge ho7 e; simp at hz; omega)⟩, ⟨i + 1, out.take a ++ y :: out.drop a, p8, c8, by rw [inc64 (by omega)], hlt, ?_, ver_ins hpw hhi hlo ha, by omega, own_base ho8 (k2.trans kz).size, (k2.trans kz).trans k8⟩, by rw [inc64 (by omega)]; simp only [Int.toNat_natCast]; omega⟩
    rw [verF_snoc hy, if_pos hgs]
    refine List.Perm.trans ?_ (hperm.append_right [y])
    refine (List.perm_middle).trans ?_
    rw [List.take_append_drop]
    exact (List.perm_append_singleton y out).symm
set_option maxRecDepth 100000 in
set_option maxHeartbeats 4000000 in
theorem xcur_any (A : List Au) (ap : Option Addr) (ac : Nat) (L : List DX) (p : Option Addr) (c : Nat) (s : ByteArray) (w : World) (hR : SR w L p c) (hl : L.length ≤ 1000000) :
    Calls Tryz.prog 30 #[.agg #[.slice ap A.length ac, .slice p L.length c], .string s] w fun e w' => (∃ out : List DX, out.Perm (verF L s) ∧ (out.Pairwise fun x y => ¬ cfP y x < 0) ∧ e = .returned (.tuple #[dfV ((headC out).getD dxz), .bool (headC out).isSome])) ∧ K0 w w' := by
  refine vc_xcur ap A.length ac p L.length c s w _ (fun n1 n2 W hW => ?_)
  have kW : K0 w W := hW.kk rfl
  refine ⟨(xvers_any A ap ac L p c s W (hR.k0 kW) hl).mono fun e w1 ⟨⟨out, q, d, he, ho, hp, hs⟩, k1⟩ => ⟨_, _, _, he, .of_k0 k1, ?_⟩⟩
  have k01 := kW.trans k1
  cases out with
  | nil =>
    refine nn_off (fun b o => ⟨gimp_intro (fun h => by cases h), false, gimp_intro (fun h => by cases h), bsp_intro (fun _ => fun W2 hW2 => ⟨⟨[], hp, hs, rfl⟩, hW2.k0 k01⟩) (fun h => by cases h)⟩)
  | cons x r =>
    obtain ⟨g, hg, hat⟩ := own_at dfC ho (k := 0) (y := x) (fun y _ => dfC_length y) (by decide) rfl
    have hc : w1.cell? ⟨g, 0 + 50, none⟩ = some (.bool x.d.rm) := by have := hat.cell (j := 50) (v := .bool x.d.rm) rfl; simpa using this
    have hat0 : AtL w1 g 0 (dfC x) := by simpa using hat
    have e0 : ((((x :: r).length : Nat) : Int) == 0) = false := by
      rw [beq_eq_false_iff_ne]
      rw [List.length_cons]; omega
    refine nn_is hg ⟨gimp_intro fun _ => ⟨by omega, by rw [List.length_cons]; omega⟩, x.d.rm, gimp_intro fun _ => hc, bsp_intro (fun h => fun W2 hW2 => ?_) (fun h => ?_)⟩
    · have hb : x.d.rm = true := by rw [e0] at h; simpa using h
      have hh : headC (x :: r) = none := if_pos hb
      exact ⟨⟨x :: r, hp, hs, by rw [hh]; rfl⟩, hW2.k0 k01⟩
    · have hb : ¬ x.d.rm = true := by rw [e0] at h; simpa using h
      have hh : headC (x :: r) = some x := if_neg hb
      refine nn_is hg ⟨⟨by omega, by rw [List.length_cons]; omega⟩, x.d.id, x.d.au, x.d.g, x.d.v, x.d.rm, x.d.md, x.p, x.d.ms.length, x.c, x.d.tx, hat0, fun W2 hW2 => ⟨⟨x :: r, hp, hs, by rw [hh]; rfl⟩, hW2.k0 k01⟩⟩

end Go.Proofs.YtkkfnlehlkiejaaGreatDoor

/- The formulas of functions by the symbolic evaluator, and that each gives the call's contract. Written by a program (gen.py). No condition. -/
namespace Go.Proofs.YtkkfnlehlkiejaaGreatDoor
set_option maxRecDepth 100000
set_option linter.unusedVariables false

def VC_lrcurr (ap : Option Addr) (an : Nat) (ac : Nat) (op : Option Addr) (on : Nat) (oc : Nat) (s : ByteArray) (w : World) (R : Ending → World → Prop) : Prop :=
 ∀ (n : Nat) (W : World),
 Loc w.heap.size [Blk.mk n 42 [Value.slice ap an ac, Value.slice op on oc] 2] w W →
 CallsS Tryz.prog 18 #[Value.agg #[Value.slice ap an ac, Value.slice op on oc]] W fun (e : Ending) (w' : World) =>
 ∃ (x : Option Addr),
 ∃ (p : Option Addr),
 ∃ (n_1 : Nat),
 ∃ (c : Nat),
 ∃ (p_1 : Option Addr),
 ∃ (n_2 : Nat),
 ∃ (c_1 : Nat),
 ∃ (x_1 : Bool),
 e =
 Ending.returned
 (Value.tuple
 #[Value.pointer x, Value.agg #[Value.slice p n_1 c, Value.slice p_1 n_2 c_1], Value.bool x_1]) ∧
 KeptL [n] W w' ∧
 ∀ (n_3 : Nat) (W : World),
 Loc w.heap.size
 [Blk.mk n_3 33 [Value.slice p n_1 c, Value.slice p_1 n_2 c_1] (wrM 2),
 Blk.mk n 42 [Value.slice ap an ac, Value.slice op on oc] 0]
 w' W →
 bsp (!(!x_1 || x.isNone))
 (CallsS Tryz.prog 15 #[] W fun (e : Ending) (w' : World) =>
 ∃ (x_2 : Bool),
 e = Ending.returned (Value.bool x_2) ∧
 KeptL [n_3, n] W w' ∧
 bsp (false || !x_2)
 (bsp x_1
 (CallsS Tryz.prog 15 #[] w' fun (e : Ending) (w'_1 : World) =>
 ∃ (x : Bool),
 e = Ending.returned (Value.bool x) ∧
 KeptL [n_3, n] w' w'_1 ∧ R (Ending.returned (Value.bool (true && x))) w'_1)
 (KeptL [n_3, n] w' w' ∧ R (Ending.returned (Value.bool false)) w'))
 (CallsS Tryz.prog 29 #[Value.pointer x, Value.string s] w' fun (e : Ending) (w'_1 : World) =>
 ∃ (f : Nat → Int),
 ∃ (f_1 : Nat → Int),
 ∃ (x_3 : ByteArray),
 ∃ (x_4 : Int),
 ∃ (x_5 : Bool),
 ∃ (x_6 : Bool),
 ∃ (p_2 : Option Addr),
 ∃ (n_4 : Nat),
 ∃ (c_2 : Nat),
 ∃ (x_7 : ByteArray),
 ∃ (x_8 : Bool),
 e =
 Ending.returned
 (Value.tuple
 #[Value.agg
 (arrI IntKind.u8 f 32 0 ++ (arrI IntKind.u8 f_1 16 0 ++ [Value.string x_3,
 Value.int IntKind.i64 x_4, Value.bool x_5, Value.bool x_6,
 Value.slice p_2 n_4 c_2, Value.string x_7])).toArray,
 Value.bool x_8]) ∧
 KeptL [n_3, n] w' w'_1 ∧
 ∀ (n_5 : Nat) (W : World),
 Loc w.heap.size
 [Blk.mk n_5 56
 (arrI IntKind.u8 f 32 0 ++ (arrI IntKind.u8 f_1 16 0 ++ [Value.string x_3,
 Value.int IntKind.i64 x_4, Value.bool x_5, Value.bool x_6,
 Value.slice p_2 n_4 c_2, Value.string x_7]))
 (wrM 2),
 Blk.mk n_3 33 [Value.slice p n_1 c, Value.slice p_1 n_2 c_1] 0,
 Blk.mk n 42 [Value.slice ap an ac, Value.slice op on oc] 0]
 w'_1 W →
 CallsS Tryz.prog 30
 #[Value.agg #[Value.slice p n_1 c, Value.slice p_1 n_2 c_1], Value.string s] W
 fun (e : Ending) (w' : World) =>
 ∃ (f_2 : Nat → Int),
 ∃ (f_3 : Nat → Int),
 ∃ (x_9 : ByteArray),
 ∃ (x_10 : Int),
 ∃ (x_11 : Bool),
 ∃ (x_12 : Bool),
 ∃ (p_3 : Option Addr),
 ∃ (n_6 : Nat),
 ∃ (c_3 : Nat),
 ∃ (x_13 : ByteArray),
 ∃ (x_14 : Bool),
 e =
 Ending.returned
 (Value.tuple
 #[Value.agg
 (arrI IntKind.u8 f_2 32 0 ++ (arrI IntKind.u8 f_3 16 0 ++ [Value.string x_9, Value.int IntKind.i64 x_10, Value.bool x_11,
 Value.bool x_12, Value.slice p_3 n_6 c_3, Value.string x_13])).toArray,
 Value.bool x_14]) ∧
 KeptL [n_5, n_3, n] W w' ∧
 ∀ (n_7 : Nat) (W : World),
 Loc w.heap.size
 [Blk.mk n_7 50
 (arrI IntKind.u8 f_2 32 0 ++ (arrI IntKind.u8 f_3 16 0 ++ [Value.string x_9, Value.int IntKind.i64 x_10, Value.bool x_11,
 Value.bool x_12, Value.slice p_3 n_6 c_3, Value.string x_13]))
 (wrM 2),
 Blk.mk n_5 56
 (arrI IntKind.u8 f 32 0 ++ (arrI IntKind.u8 f_1 16 0 ++ [Value.string x_3, Value.int IntKind.i64 x_4, Value.bool x_5,
 Value.bool x_6, Value.slice p_2 n_4 c_2, Value.string x_7]))
 0,
 Blk.mk n_3 33 [Value.slice p n_1 c, Value.slice p_1 n_2 c_1] 0,
 Blk.mk n 42 [Value.slice ap an ac, Value.slice op on oc] 0]
 w' W →
 CallsS Tryz.prog 31 #[Value.pointer x, Value.string s] W
 fun (e : Ending) (w' : World) =>
 ∃ (p_4 : Option Addr),
 ∃ (n_8 : Nat),
 ∃ (c_4 : Nat),
 e = Ending.returned (Value.slice p_4 n_8 c_4) ∧
 KeptL [n_7, n_5, n_3, n] W w' ∧
 ∀ (W : World),
 Loc w.heap.size
 [Blk.mk n_7 50
 (arrI IntKind.u8 f_2 32 0 ++ (arrI IntKind.u8 f_3 16 0 ++ [Value.string x_9,
 Value.int IntKind.i64 x_10, Value.bool x_11,
 Value.bool x_12, Value.slice p_3 n_6 c_3,
 Value.string x_13]))
 0,
 Blk.mk n_5 56
 (arrI IntKind.u8 f 32 0 ++ (arrI IntKind.u8 f_1 16 0 ++ [Value.string x_3,
 Value.int IntKind.i64 x_4, Value.bool x_5,
 Value.bool x_6, Value.slice p_2 n_4 c_2,
 Value.string x_7]))
 0,
 Blk.mk n_3 33
 [Value.slice p n_1 c, Value.slice p_1 n_2 c_1] 0,
 Blk.mk n 42 [Value.slice ap an ac, Value.slice op on oc]
 0]
 w' W →
 ∃ (S : World → Prop),
 S W ∧
 ∃ (f_4 : Nat → Int),
 ∃ (f_5 : Nat → Int),
 ∃ (x_15 : ByteArray),
 ∃ (x_16 : Int),
 ∃ (x_17 : Bool),
 ∃ (x_18 : Bool),
 ∃ (p_5 : Option Addr),
 ∃ (n_9 : Nat),
 ∃ (c_5 : Nat),
 ∃ (x_19 : ByteArray),
 gimp (!!x_8 == x_14)
 (∀ (w' : World),
 S w' →
 AtL w' n_5 0
 (arrI IntKind.u8 f_4 32 0 ++ (arrI IntKind.u8 f_5 16 0 ++ [Value.string x_15,
 Value.int IntKind.i64 x_16,
 Value.bool x_17, Value.bool x_18,
 Value.slice p_5 n_9 c_5,
 Value.string x_19]))) ∧
 ∃ (f_6 : Nat → Int),
 ∃ (f_7 : Nat → Int),
 ∃ (x_20 : ByteArray),
 ∃ (x_21 : Int),
 ∃ (x_22 : Bool),
 ∃ (x_23 : Bool),
 ∃ (p_6 : Option Addr),
 ∃ (n_10 : Nat),
 ∃ (c_6 : Nat),
 ∃ (x_24 : ByteArray),
 gimp (!!x_8 == x_14)
 (∀ (w' : World),
 S w' →
 AtL w' n_7 0
 (arrI IntKind.u8 f_6 32 0 ++ (arrI IntKind.u8 f_7 16 0 ++ [Value.string x_20,
 Value.int IntKind.i64 x_21,
 Value.bool x_22,
 Value.bool x_23,
 Value.slice p_6 n_10 c_6,
 Value.string x_24]))) ∧
 bsp (!!x_8 == x_14)
 (CallsS Tryz.prog 26
 #[Value.agg
 (arrI IntKind.u8 f_4 32 0 ++ (arrI IntKind.u8 f_5 16 0 ++ [Value.string x_15,
 Value.int IntKind.i64 x_16,
 Value.bool x_17,
 Value.bool x_18,
 Value.slice p_5 n_9 c_5,
 Value.string x_19])).toArray]
 W
 fun (e : Ending) (w' : World) =>
 ∃ (f_8 : Nat → Int),
 ∃ (f_9 : Nat → Int),
 ∃ (x_25 : ByteArray),
 ∃ (x_26 : Int),
 ∃ (x_27 : Bool),
 ∃ (x_28 : Bool),
 ∃ (p_7 : Option Addr),
 ∃ (n_11 : Nat),
 ∃ (c_7 : Nat),
 ∃ (x_29 : ByteArray),
 e =
 Ending.returned
 (Value.agg
 (arrI IntKind.u8 f_8 32 0 ++ (arrI IntKind.u8 f_9 16 0 ++ [Value.string x_25,
 Value.int
 IntKind.i64 x_26,
 Value.bool x_27,
 Value.bool x_28,
 Value.slice p_7
 n_11 c_7,
 Value.string
 x_29])).toArray) ∧
 S w' ∧
 CallsS Tryz.prog 28
 #[Value.agg
 (arrI IntKind.u8 f_8 32 0 ++ (arrI IntKind.u8 f_9 16 0 ++ [Value.string
 x_25,
 Value.int
 IntKind.i64
 x_26,
 Value.bool x_27,
 Value.bool x_28,
 Value.slice p_7
 n_11 c_7,
 Value.string
 x_29])).toArray,
 Value.agg
 (arrI IntKind.u8 f_6 32 0 ++ (arrI IntKind.u8 f_7 16 0 ++ [Value.string
 x_20,
 Value.int
 IntKind.i64
 x_21,
 Value.bool x_22,
 Value.bool x_23,
 Value.slice p_6
 n_10 c_6,
 Value.string
 x_24])).toArray]
 w'
 fun (e : Ending)
 (w' : World) =>
 ∃ (x_30 : Bool),
 e =
 Ending.returned
 (Value.bool
 x_30) ∧
 S w' ∧
 bsp
 (!(false ||
 !x_30))
 (CallsS
 Tryz.prog 32
 #[Value.pointer
 x,
 Value.string
 s]
 w'
 fun
 (e : Ending)
 (w' :
 World) =>
 ∃ (x : Bool),
 e =
 Ending.returned
 (Value.bool
 x) ∧
 S w' ∧
 ∃ (x_31 :
 Bool),
 gimp
 (!false &&
 x_14)
 (∀
 (w' :
 World),
 S w' →
 w'.cell?
 (Addr.mk
 n_7
 (0 +
 51)
 none) =
 some
 (Value.bool
 x_31)) ∧
 ∃ (p_8 :
 Option
 Addr),
 ∃ (n_12 :
 Nat),
 ∃ (c_8 :
 Nat),
 ∃ (p_9
 :
 Option
 Addr),
 ∃
 (n_13
 :
 Nat),
 ∃
 (c_9
 :
 Nat),
 gimp
 (!(false ||
 !x ==
 (x_14 &&
 x_31)))
 (∀
 (w' :
 World),
 S
 w' →
 AtL
 w'
 n_3
 0
 [Value.slice
 p_8
 n_12
 c_8,
 Value.slice
 p_9
 n_13
 c_9]) ∧
 bsp
 (!(false ||
 !x ==
 (x_14 &&
 x_31)))
 (CallsS
 Tryz.prog
 34
 #[Value.agg
 #[Value.slice
 p_8
 n_12
 c_8,
 Value.slice
 p_9
 n_13
 c_9],
 Value.string
 s]
 w'
 fun
 (e :
 Ending)
 (w' :
 World) =>
 ∃
 (p_10
 :
 Option
 Addr),
 ∃
 (n_14
 :
 Nat),
 ∃
 (c_10
 :
 Nat),
 e =
 Ending.returned
 (Value.slice
 p_10
 n_14
 c_10) ∧
 CallsS
 Tryz.prog
 33
 #[Value.slice
 p_4
 n_8
 c_4,
 Value.slice
 p_10
 n_14
 c_10]
 w'
 fun
 (e :
 Ending)
 (w' :
 World) =>
 ∃
 (x
 :
 Bool),
 e =
 Ending.returned
 (Value.bool
 x) ∧
 KeptL
 [n_7,
 n_5,
 n_3,
 n]
 W
 w' ∧
 bsp
 (false ||
 !x)
 (R
 (Ending.returned
 (Value.bool
 false))
 w')
 (nn
 (!!x_8 &&
 decide
 ((↑n_8 :
 Int) >
 0))
 p_4
 fun
 (b
 o :
 Nat) =>
 gimp
 (!!x_8 &&
 decide
 ((↑n_8 :
 Int) >
 0))
 ((0 : Int) ≤ 0 ∧
 0 <
 (↑n_8 :
 Int)) ∧
 ∃
 (f_10
 :
 Nat →
 Int),
 ∃
 (f_11
 :
 Nat →
 Int),
 ∃
 (x
 :
 ByteArray),
 ∃
 (x_32
 :
 Int),
 ∃
 (x_33
 :
 Bool),
 ∃
 (x_34
 :
 Bool),
 ∃
 (p_11
 :
 Option
 Addr),
 ∃
 (n_15
 :
 Nat),
 ∃
 (c_11
 :
 Nat),
 ∃
 (x_35
 :
 ByteArray),
 gimp
 (!!x_8 &&
 decide
 ((↑n_8 :
 Int) >
 0))
 (∀
 (W :
 World),
 Loc
 w.heap.size
 [Blk.mk
 n_7
 50
 (arrI IntKind.u8 f_2 32 0 ++ (arrI IntKind.u8 f_3 16 0 ++ [Value.string
 x_9,
 Value.int
 IntKind.i64
 x_10,
 Value.bool
 x_11,
 Value.bool
 x_12,
 Value.slice
 p_3
 n_6
 c_3,
 Value.string
 x_13]))
 0,
 Blk.mk
 n_5
 56
 (arrI IntKind.u8 f 32 0 ++ (arrI IntKind.u8 f_1 16 0 ++ [Value.string
 x_3,
 Value.int
 IntKind.i64
 x_4,
 Value.bool
 x_5,
 Value.bool
 x_6,
 Value.slice
 p_2
 n_4
 c_2,
 Value.string
 x_7]))
 0,
 Blk.mk
 n_3
 33
 [Value.slice
 p
 n_1
 c,
 Value.slice
 p_1
 n_2
 c_1]
 0,
 Blk.mk
 n
 42
 [Value.slice
 ap
 an
 ac,
 Value.slice
 op
 on
 oc]
 0]
 w'
 W →
 AtL
 W
 b
 o
 (arrI IntKind.u8 f_10 32 0 ++ (arrI IntKind.u8 f_11 16 0 ++ [Value.string
 x,
 Value.int
 IntKind.i64
 x_32,
 Value.bool
 x_33,
 Value.bool
 x_34,
 Value.slice
 p_11
 n_15
 c_11,
 Value.string
 x_35]))) ∧
 ∀
 (W :
 World),
 Loc
 w.heap.size
 [Blk.mk
 n_7
 50
 (arrI IntKind.u8 f_2 32 0 ++ (arrI IntKind.u8 f_3 16 0 ++ [Value.string
 x_9,
 Value.int
 IntKind.i64
 x_10,
 Value.bool
 x_11,
 Value.bool
 x_12,
 Value.slice
 p_3
 n_6
 c_3,
 Value.string
 x_13]))
 0,
 Blk.mk
 n_5
 56
 (arrI IntKind.u8 f 32 0 ++ (arrI IntKind.u8 f_1 16 0 ++ [Value.string
 x_3,
 Value.int
 IntKind.i64
 x_4,
 Value.bool
 x_5,
 Value.bool
 x_6,
 Value.slice
 p_2
 n_4
 c_2,
 Value.string
 x_7]))
 0,
 Blk.mk
 n_3
 33
 [Value.slice
 p
 n_1
 c,
 Value.slice
 p_1
 n_2
 c_1]
 0,
 Blk.mk
 n
 42
 [Value.slice
 ap
 an
 ac,
 Value.slice
 op
 on
 oc]
 0]
 w'
 W →
 bsp
 (!!x_8)
 (bsp
 (decide
 ((↑n_8 :
 Int) >
 0))
 (CallsS
 Tryz.prog
 27
 #[Value.agg
 (arrI IntKind.u8 f_10 32 0 ++ (arrI IntKind.u8 f_11 16 0 ++ [Value.string
 x,
 Value.int
 IntKind.i64
 x_32,
 Value.bool
 x_33,
 Value.bool
 x_34,
 Value.slice
 p_11
 n_15
 c_11,
 Value.string
 x_35])).toArray,
 Value.agg
 (arrI IntKind.u8 f 32 0 ++ (arrI IntKind.u8 f_1 16 0 ++ [Value.string
 x_3,
 Value.int
 IntKind.i64
 x_4,
 Value.bool
 x_5,
 Value.bool
 x_6,
 Value.slice
 p_2
 n_4
 c_2,
 Value.string
 x_7])).toArray]
 W
 fun
 (e :
 Ending)
 (w' :
 World) =>
 ∃
 (x
 :
 Bool),
 e =
 Ending.returned
 (Value.bool
 x) ∧
 KeptL
 [n_7,
 n_5,
 n_3,
 n]
 W
 w' ∧
 R
 (Ending.returned
 (Value.bool
 (false ||
 true &&
 x)))
 w')
 (KeptL
 [n_7,
 n_5,
 n_3,
 n]
 W
 W ∧
 R
 (Ending.returned
 (Value.bool
 (false ||
 false)))
 W))
 (KeptL
 [n_7,
 n_5,
 n_3,
 n]
 W
 W ∧
 R
 (Ending.returned
 (Value.bool
 true))
 W)))
 (KeptL
 [n_7,
 n_5,
 n_3,
 n]
 W
 w' ∧
 R
 (Ending.returned
 (Value.bool
 false))
 w'))
 (S w' ∧
 ∃ (p :
 Option Addr),
 ∃ (n_12 :
 Nat),
 ∃ (c : Nat),
 ∃ (p :
 Option
 Addr),
 ∃ (n_13 :
 Nat),
 ∃ (c :
 Nat),
 True ∧
 KeptL
 [n_7,
 n_5,
 n_3,
 n]
 W w' ∧
 R
 (Ending.returned
 (Value.bool
 false))
 w'))
 (S W ∧
 S W ∧
 S W ∧
 ∃ (p : Option Addr),
 ∃ (n_11 : Nat),
 ∃ (c : Nat),
 ∃ (p : Option Addr),
 ∃ (n_12 : Nat),
 ∃ (c : Nat),
 True ∧
 KeptL [n_7, n_5, n_3, n]
 W W ∧
 R
 (Ending.returned
 (Value.bool false))
 W)))
 (KeptL [n_3, n] W W ∧
 bsp x_1
 (CallsS Tryz.prog 15 #[] W fun (e : Ending) (w' : World) =>
 ∃ (x : Bool),
 e = Ending.returned (Value.bool x) ∧
 KeptL [n_3, n] W w' ∧ R (Ending.returned (Value.bool (true && x))) w')
 (KeptL [n_3, n] W W ∧ R (Ending.returned (Value.bool false)) W))
theorem vc_lrcurr (ap : Option Addr) (an : Nat) (ac : Nat) (op : Option Addr) (on : Nat) (oc : Nat) (s : ByteArray) (w : World) (R : Ending → World → Prop) (h : VC_lrcurr ap an ac op on oc s w R) : Calls Tryz.prog 7 ([Value.agg
    #[Value.slice ap an ac, Value.slice op on oc],
  Value.string s] : List Value).toArray w R := by
  have e : execR2 { P := Tryz.prog, loops := [], pur := pur1, tails := [(7, 5), (9, 11)], joins := [], boxes := [] } Tryz.f7.results.toList R (Tryz.f7.body.getD .skip) (initF [Value.agg
    #[Value.slice ap an ac, Value.slice op on oc],
  Value.string
    s] (Tryz.f7.ntmps - ([Value.agg #[Value.slice ap an ac, Value.slice op on oc],
  Value.string s] : List Value).length)) w = VC_lrcurr ap an ac op on oc s w R := by kernel_rfl
  have hb : Tryz.f7.body = some (Tryz.f7.body.getD .skip) := by kernel_rfl
  exact calls_of_exec2' (P := Tryz.prog) (fn := Tryz.f7) (c := Tryz.f7.body.getD .skip) (args := [Value.agg
    #[Value.slice ap an ac, Value.slice op on oc],
  Value.string s]) (w := w) (R := R) pur1_ok Tryz.func7 hb e h

def VC_lvers (p : Option Addr) (n : Nat) (c : Nat) (q : Option Addr) (k : Nat) (d : Nat) (w : World) (R : Ending → World → Prop) : Prop :=
 bsp ((↑n : Int) != (↑k : Int)) (R (Ending.returned (Value.bool false)) w)
 (∃ (I : List Value → World → Prop),
 ∃ (m : List Value → World → Nat),
 I [Value.int IntKind.i64 0] w ∧
 ∀ (x : Int) (w' : World),
 I [Value.int IntKind.i64 x] w' →
 bsp (decide (x < (↑n : Int)))
 (∀ (W : World),
 Loc w.heap.size [] w' W →
 ∃ (S : World → Prop),
 S W ∧
 nn true p fun (b o : Nat) =>
 (0 ≤ x ∧ x < (↑n : Int)) ∧
 ∃ (f : Nat → Int),
 ∃ (f_1 : Nat → Int),
 ∃ (x_1 : ByteArray),
 ∃ (x_2 : Int),
 ∃ (x_3 : Bool),
 ∃ (x_4 : Bool),
 ∃ (p : Option Addr),
 ∃ (n : Nat),
 ∃ (c : Nat),
 ∃ (x_5 : ByteArray),
 (∀ (w' : World),
 S w' →
 AtL w' b (o + x.toNat * 54)
 (arrI IntKind.u8 f 32 0 ++ (arrI IntKind.u8 f_1 16 0 ++ [Value.string x_1, Value.int IntKind.i64 x_2, Value.bool x_3, Value.bool x_4,
 Value.slice p n c, Value.string x_5]))) ∧
 nn true q fun (b o : Nat) =>
 (0 ≤ x ∧ x < (↑k : Int)) ∧
 ∃ (f_2 : Nat → Int),
 ∃ (f_3 : Nat → Int),
 ∃ (x_6 : ByteArray),
 ∃ (x_7 : Int),
 ∃ (x_8 : Bool),
 ∃ (x_9 : Bool),
 ∃ (p_1 : Option Addr),
 ∃ (n_1 : Nat),
 ∃ (c_1 : Nat),
 ∃ (x_10 : ByteArray),
 (∀ (w' : World),
 S w' →
 AtL w' b (o + x.toNat * 54)
 (arrI IntKind.u8 f_2 32 0 ++ (arrI IntKind.u8 f_3 16 0 ++ [Value.string x_6,
 Value.int IntKind.i64 x_7, Value.bool x_8, Value.bool x_9,
 Value.slice p_1 n_1 c_1, Value.string x_10]))) ∧
 CallsS Tryz.prog 26
 #[Value.agg
 (arrI IntKind.u8 f 32 0 ++ (arrI IntKind.u8 f_1 16 0 ++ [Value.string x_1,
 Value.int IntKind.i64 x_2, Value.bool x_3, Value.bool x_4, Value.slice p n c,
 Value.string x_5])).toArray]
 W fun (e : Ending) (w'_1 : World) =>
 ∃ (f : Nat → Int),
 ∃ (f_4 : Nat → Int),
 ∃ (x_11 : ByteArray),
 ∃ (x_12 : Int),
 ∃ (x_13 : Bool),
 ∃ (x_14 : Bool),
 ∃ (p : Option Addr),
 ∃ (n : Nat),
 ∃ (c : Nat),
 ∃ (x_15 : ByteArray),
 e =
 Ending.returned
 (Value.agg
 (arrI IntKind.u8 f 32 0 ++ (arrI IntKind.u8 f_4 16 0 ++ [Value.string x_11, Value.int IntKind.i64 x_12, Value.bool x_13,
 Value.bool x_14, Value.slice p n c, Value.string x_15])).toArray) ∧
 S w'_1 ∧
 CallsS Tryz.prog 28
 #[Value.agg
 (arrI IntKind.u8 f 32 0 ++ (arrI IntKind.u8 f_4 16 0 ++ [Value.string x_11, Value.int IntKind.i64 x_12, Value.bool x_13,
 Value.bool x_14, Value.slice p n c, Value.string x_15])).toArray,
 Value.agg
 (arrI IntKind.u8 f_2 32 0 ++ (arrI IntKind.u8 f_3 16 0 ++ [Value.string x_6, Value.int IntKind.i64 x_7, Value.bool x_8,
 Value.bool x_9, Value.slice p_1 n_1 c_1, Value.string x_10])).toArray]
 w'_1 fun (e : Ending) (w'_2 : World) =>
 ∃ (x_16 : Bool),
 e = Ending.returned (Value.bool x_16) ∧
 KeptL [] W w'_2 ∧
 bsp (!x_16) (R (Ending.returned (Value.bool false)) w'_2)
 (I [Value.int IntKind.i64 (IntKind.i64.wrap (x + 1))] w'_2 ∧
 m [Value.int IntKind.i64 (IntKind.i64.wrap (x + 1))] w'_2 <
 m [Value.int IntKind.i64 x] w'))
 (R (Ending.returned (Value.bool true)) w'))
theorem vc_lvers (p : Option Addr) (n : Nat) (c : Nat) (q : Option Addr) (k : Nat) (d : Nat) (w : World) (R : Ending → World → Prop) (h : VC_lvers p n c q k d w R) : Calls Tryz.prog 33 ([Value.slice
    p n c,
  Value.slice q k d] : List Value).toArray w R := by
  have e : execR2 { P := Tryz.prog, loops := [(4, [(5, Ck.int IntKind.i64)])], pur := pur1, tails := [(6, 4)], joins := [], boxes := [] } Tryz.f33.results.toList R (Tryz.f33.body.getD .skip) (initF [Value.slice
    p n c,
  Value.slice q k
    d] (Tryz.f33.ntmps - ([Value.slice p n c,
  Value.slice q k d] : List Value).length)) w = VC_lvers p n c q k d w R := by kernel_rfl
  have hb : Tryz.f33.body = some (Tryz.f33.body.getD .skip) := by kernel_rfl
  exact calls_of_exec2' (P := Tryz.prog) (fn := Tryz.f33) (c := Tryz.f33.body.getD .skip) (args := [Value.slice p n c,
  Value.slice q k d]) (w := w) (R := R) pur1_ok Tryz.func33 hb e h

end Go.Proofs.YtkkfnlehlkiejaaGreatDoor

/- Chapter 21: RegistryCurrent on worlds. No condition but what a reading gives. -/
namespace Go.Proofs.YtkkfnlehlkiejaaGreatDoor
open Go.RowKit Go.Maps

set_option maxRecDepth 100000 in
set_option maxHeartbeats 2000000 in
theorem lvers_any (cs : List DX) (p : Option Addr) (c : Nat) (out : List DX) (q : Option Addr) (d : Nat) (w : World) (hp : RowA dfC 54 w p cs) (hpm : ∀ x ∈ cs, RowA auC 16 w x.p x.d.ms) (hq : RowA dfC 54 w q out) (hqm : ∀ x ∈ out, RowA auC 16 w x.p x.d.ms) (hok : ∀ x ∈ out, x.d.OK ∧ x.d.ms.length ≤ 8) (he : cs.map (fun x => x.d) = out.map fun x => x.d) (hl : cs.length ≤ 1000000) :
    Calls Tryz.prog 33 #[.slice p cs.length c, .slice q out.length d] w fun e w' => e = .returned (.bool true) ∧ K0 w w' := by
  have hlen : cs.length = out.length := by have := congrArg List.length he; simpa using this
  refine vc_lvers p cs.length c q out.length d w _ (bsp_intro (fun h => by exfalso; rw [hlen] at h; simp at h) (fun _ => ?_))
  refine ⟨fun vs w' => ∃ i : Nat, vs = [.int .i64 (i : Int)] ∧ i ≤ cs.length ∧ K0 w w', fun vs _ => (match vs with | .int _ a :: _ => cs.length - a.toNat | _ => 0), ⟨0, rfl, by omega, .refl _ _⟩, ?_⟩
  rintro x w1 ⟨i, hv, hi, k1⟩
  simp only [List.cons.injEq, Value.int.injEq, true_and, and_true] at hv
  subst hv
  refine bsp_intro (fun hlt => fun W2 hW2 => ?_) (fun hge => ⟨rfl, k1⟩)
  have hlt : i < cs.length := by simp at hlt; omega
  have k2 : K0 w1 W2 := hW2.kk rfl
  have k02 := k1.trans k2
  obtain ⟨x, b, o, hx, hpb, hat⟩ := (hp.k0 k02).get hlt
  obtain ⟨y, b2, o2, hy, hqb, hat2⟩ := (hq.k0 k02).get (k := i) (by omega)
  have hxy : x.d = y.d := by
    have h1 := congrArg (fun z => z[i]?) he
    simp only [List.getElem?_map, hx, hy, Option.map_some, Option.some.injEq] at h1
    exact h1
  have hxm := List.mem_of_getElem? hx
  have hym := List.mem_of_getElem? hy
  obtain ⟨oy, ly⟩ := hok y hym
  rw [Int.toNat_natCast]
  refine ⟨fun wx => K0 W2 wx, .refl _ _, nn_is hpb ⟨⟨by omega, by omega⟩, x.d.id, x.d.au, x.d.g, x.d.v, x.d.rm, x.d.md, x.p, x.d.ms.length, x.c, x.d.tx, fun wx k => hat.k0 k, nn_is hqb ⟨⟨by omega, by omega⟩, y.d.id, y.d.au, y.d.g, y.d.v, y.d.rm, y.d.md, y.p, y.d.ms.length, y.c, y.d.tx, fun wx k => hat2.k0 k, ?_⟩⟩⟩
  refine ⟨(lof_any x W2 ((hpm x hxm).k0 k02) (by rw [hxy]; omega)).mono fun e w3 ⟨⟨q2, d2, he, ho2⟩, k3⟩ => ⟨_, _, _, _, _, _, _, _, _, _, he, k3, ?_⟩⟩
  refine ⟨(xsame_any ⟨x.d, q2, d2⟩ y w3 ho2.row ((hqm y hym).k0 (k02.trans k3)) (by rw [hxy]; exact oy) oy (by show x.d.ms.length ≤ _; rw [hxy]; omega)).mono fun e w4 ⟨he, k4⟩ => ⟨_, he, .of_k0 (k3.trans k4), bsp_intro (fun h => ?_) (fun _ => ⟨⟨i + 1, by rw [inc64 (by omega)], hlt, (k02.trans k3).trans k4⟩, by rw [inc64 (by omega)]; simp only [Int.toNat_natCast]; omega⟩)⟩⟩
  exfalso
  have : dEq x.d y.d = true := by rw [hxy]; exact dEq_iff.2 rfl
  rw [show dEq (DX.mk x.d q2 d2).d y.d = true from this] at h
  cases h
section
variable {w : World} {cs : List DX}
theorem headX (hm : ∀ x ∈ cs, RowA auC 16 w x.p x.d.ms) : RowA auC 16 w ((headC cs).getD dxz).p ((headC cs).getD dxz).d.ms := by
  cases h : headC cs with
  | none => exact RowA.nil
  | some x => exact hm x (headC_mem h)
theorem dz_OK : dz.OK := ⟨fun _ => (show (0 : Int) ≤ 0 ∧ (0 : Int) ≤ 255 by decide), fun _ => (show (0 : Int) ≤ 0 ∧ (0 : Int) ≤ 255 by decide), fun m hm => by cases hm⟩
theorem headOK (h : ∀ x ∈ cs, x.d.OK ∧ x.d.ms.length ≤ 8) : ((headC cs).getD dxz).d.OK ∧ ((headC cs).getD dxz).d.ms.length ≤ 8 := by
  cases hc : headC cs with
  | none => exact ⟨dz_OK, by decide⟩
  | some x => exact h x (headC_mem hc)
end
set_option maxRecDepth 100000 in
set_option maxHeartbeats 8000000 in
theorem lrcurr_any (As : List Au) (ap : Option Addr) (ac : Nat) (Os : List OpY) (op : Option Addr) (oc : Nat) (s : ByteArray) (w : World) (hA : RowA atC 17 w ap As) (hB : ∀ x ∈ As, BY x.au) (hO : RowA opC 55 w op Os) (hR : ∀ x ∈ Os, DfR w x.x) (hG : GW w) :
    Calls Tryz.prog 7 #[.agg #[.slice ap As.length ac, .slice op Os.length oc], .string s] w fun e w' => e = .returned (.bool true) ∧ K0 w w' := by
  refine vc_lrcurr ap As.length ac op Os.length oc s w _ (fun n W hW => ?_)
  have kW : K0 w W := hW.kk rfl
  have hG' : ∀ {wa : World}, K0 w wa → GW wa := fun k => hG.kp k (fun h => h)
  refine ⟨(lplay_any As ap ac Os op oc W (hA.k0 kW) hB (hO.k0 kW) (fun x hx => (hR x hx).k0 kW) (hG' kW)).mono fun e w1 hQ => ?_⟩
  rcases hQ with ⟨p, k, c, q, m, d, he, k1⟩ | ⟨b, mb, rp, rc, l, ds, dp, dc, he, hI, hOK, h30⟩
  · refine ⟨_, _, _, _, _, _, _, _, he, .of_k0 k1, fun n3 W2 hW2 => bsp_intro (fun h => by simp at h) (fun _ => ?_)⟩
    have k02 := (kW.trans k1).trans (hW2.kk rfl : K0 w1 W2)
    exact ⟨.refl _ _, bsp_intro (fun _ => ⟨(known_any W2 (hG' k02)).mono fun e w3 ⟨he, k3⟩ => ⟨_, he, .of_k0 k3, rfl, k02.trans k3⟩⟩) (fun h => by cases h)⟩
  refine ⟨_, _, _, _, _, _, _, _, he, .of_k0 hI.k, fun n3 W2 hW2 => bsp_intro (fun _ => ?_) (fun h => by simp at h)⟩
  have k2 : K0 w1 W2 := hW2.kk rfl
  have k02 := (kW.trans hI.k).trans k2
  have hl := hI.dl.len
  have hdok : ∀ y ∈ ds, y.d.OK := fun y hy => (hI.sr.ok y hy).2.2
  have hd8 : ∀ y ∈ ds, y.d.OK ∧ y.d.ms.length ≤ 8 := fun y hy => ⟨hdok y hy, (dchk_sz (hI.sr.ok y hy).1).2.2.2.1⟩
  refine ⟨(known_any W2 (hG' k02)).mono fun e w3 ⟨he, k3⟩ => ⟨_, he, .of_k0 k3, bsp_intro (fun h => by simp at h) (fun _ => ?_)⟩⟩
  have hI3 := hI.k0 (k2.trans k3)
  refine ⟨(rcur_any hI3.reg (by omega) s).mono fun e w4 ⟨⟨cs1, hV1, hM1, he⟩, k4⟩ => ⟨_, _, _, _, _, _, _, _, _, _, _, he, .of_k0 k4, fun n5 W5 hW5 => ?_⟩⟩
  have k5 : K0 w4 W5 := hW5.kk rfl
  have hI5 := hI3.k0 (k4.trans k5)
  refine ⟨(xcur_any (autL As) rp rc ds dp dc s W5 hI5.sr (by omega)).mono fun e w6 ⟨⟨out, hp1, hs1, he⟩, k6⟩ => ⟨_, _, _, _, _, _, _, _, _, _, _, he, .of_k0 k6, fun n7 W7 hW7 => ?_⟩⟩
  have k7 : K0 w6 W7 := hW7.kk rfl
  have hI7 := hI5.k0 (k6.trans k7)
  refine ⟨(rvers_any hI7.reg (by omega) s).mono fun e w8 ⟨⟨cs2, p4, c4, he, ho2, hV2, hM2⟩, k8⟩ => ⟨_, _, _, he, .of_k0 k8, fun W9 hW9 => ?_⟩⟩
  have k9 : K0 w8 W9 := hW9.kk rfl
  have hI9 := hI7.k0 (k8.trans k9)
  have b7 := hW9.cells 0 rfl
  have b5 := hW9.cells 1 rfl
  have b3 := hW9.cells 2 rfl
  -- what the lists say
  have hE1 := hI.dl.vers hdok hV1 hp1 hs1
  have hE2 := hI.dl.vers hdok hV2 hp1 hs1
  have hsub : ∀ x ∈ out, x ∈ ds := fun x hx => (List.mem_filter.1 (hp1.subset hx)).1
  have hof : ∀ {cs : List DX}, cs.map (fun x => x.d) = out.map (fun x => x.d) → ∀ x ∈ cs, x.d.OK ∧ x.d.ms.length ≤ 8 := fun {cs} he x hx => by
    have h1 : x.d ∈ out.map fun x => x.d := by rw [← he]; exact List.mem_map.2 ⟨x, hx, rfl⟩
    obtain ⟨y, hy, e⟩ := List.mem_map.1 h1
    rw [← e]; exact hd8 y (hsub y hy)
  have his : (headC cs1).isSome = (headC out).isSome := by rw [headC_is, headC_is, hE1]
  have hXY : ((headC cs1).getD dxz).d = ((headC out).getD dxz).d := by rw [headC_get, headC_get, hE1]
  have hXr := headX (cs := cs1) fun x hx => (hM1 x hx).row.k0 (((((k5.trans k6).trans k7).trans k8).trans k9))
  have hYr := headX (cs := out) fun x hx => hI9.sr.ms x (hsub x hx)
  obtain ⟨oX, lX⟩ := headOK (cs := cs1) (hof hE1)
  obtain ⟨oY, lY⟩ := headOK (cs := out) (fun x hx => hd8 x (hsub x hx))
  have hcs2 : cs2.length ≤ 4096 := by
    have h1 := congrArg List.length hE2
    have h2 : out.length ≤ ds.length := by rw [hp1.length_eq]; exact List.length_filter_le _ _
    simp only [List.length_map] at h1
    omega
  have hcd : (!(!(headC cs1).isSome == (headC out).isSome)) = true := by rw [his]; simp
  have hX0 : ∀ z r, cs2 = z :: r → ∀ x, headC cs1 = some x → z.d = x.d := fun z r hz x hx => by
    have h1 := hE2.trans hE1.symm
    rw [hz] at h1
    cases cs1 with
    | nil => cases hx
    | cons y t =>
      have hx : (if y.d.rm = true then none else some y) = some x := hx
      split at hx
      · cases hx
      · cases hx
        rw [List.map_cons, List.map_cons] at h1
        exact (List.cons.inj h1).1
  have hne2 : (headC cs1).isSome = true → 0 < cs2.length := fun h => by
    have h1 := congrArg List.length (hE2.trans hE1.symm)
    simp only [List.length_map] at h1
    rw [h1]
    cases cs1 with
    | nil => cases h
    | cons y t => simp
  generalize hXd : (headC cs1).getD dxz = X at *
  generalize hYd : (headC out).getD dxz = Y at *
  refine ⟨fun wx => K0 W9 wx, .refl _ _, X.d.id, X.d.au, X.d.g, X.d.v, X.d.rm, X.d.md, X.p, X.d.ms.length, X.c, X.d.tx, gimp_intro fun _ wx k => AtL_block (k.blk b5 (fun h => h)) rfl, Y.d.id, Y.d.au, Y.d.g, Y.d.v, Y.d.rm, Y.d.md, Y.p, Y.d.ms.length, Y.c, Y.d.tx, gimp_intro fun _ wx k => AtL_block (k.blk b7 (fun h => h)) rfl, bsp_intro (fun _ => ?_) (fun h => by rw [hcd] at h; cases h)⟩
  refine ⟨(lof_any X W9 hXr (by omega)).mono fun e w10 ⟨⟨q2, d2, he, hor⟩, k10⟩ => ⟨_, _, _, _, _, _, _, _, _, _, he, k10, ?_⟩⟩
  refine ⟨(xsame_any ⟨X.d, q2, d2⟩ Y w10 hor.row (hYr.k0 k10) oX oY (by show X.d.ms.length ≤ _; omega)).mono fun e w11 ⟨he, k11⟩ => ⟨_, he, k10.trans k11, bsp_intro (fun _ => ?_) (fun h => ?_)⟩⟩
  rotate_left
  · exfalso
    rw [show dEq (DX.mk X.d q2 d2).d Y.d = true from dEq_iff.2 (by show X.d.pl = Y.d.pl; rw [hXY])] at h
    cases h
  have k911 := k10.trans k11
  have hI11 := hI9.k0 k911
  refine ⟨(rmod_any hI11.reg (by omega) s).mono fun e w12 ⟨⟨cs3, hV3, he⟩, k12⟩ => ?_⟩
  have hE3 := hI.dl.vers hdok hV3 hp1 hs1
  have hmd : ((headC cs3).isSome && ((headC cs3).getD dxz).d.md) = ((headC out).isSome && Y.d.md) := by
    rw [headC_is, headC_get, hE3, ← headC_is, ← headC_get, hYd]
  rw [hmd] at he
  have k912 := k911.trans k12
  have hI12 := hI11.k0 k12
  have hc2 : (!(false || !((headC out).isSome && Y.d.md) == ((headC out).isSome && Y.d.md))) = true := by
    generalize ((headC out).isSome && Y.d.md) = z
    cases z <;> rfl
  refine ⟨_, he, k912, Y.d.md, gimp_intro fun _ wx k => cell_at (k.blk b7 (fun h => h)) rfl, rp, (autL As).length, rc, dp, ds.length, dc, gimp_intro fun _ wx k => AtL_block (k.blk b3 (fun h => h)) rfl, bsp_intro (fun _ => ?_) (fun h => by rw [hc2] at h; cases h)⟩
  refine ⟨(xvers_any (autL As) rp rc ds dp dc s w12 hI12.sr (by omega)).mono fun e w13 ⟨⟨out2, q5, d5, he, hoo, hp2, hs2⟩, k13⟩ => ⟨_, _, _, he, ?_⟩⟩
  have hE4 := hI.dl.vers hdok hV2 hp2 hs2
  have hsub2 : ∀ x ∈ out2, x ∈ ds := fun x hx => (List.mem_filter.1 (hp2.subset hx)).1
  have k913 := k912.trans k13
  have hI13 := hI12.k0 k13
  have hr2 := (RowA.own ho2 dfC_length (by decide)).k0 (k9.trans k913)
  refine ⟨(lvers_any cs2 p4 c4 out2 q5 d5 w13 hr2 (fun x hx => (hM2 x hx).row.k0 (k9.trans k913)) (RowA.own hoo dfC_length (by decide)) (fun x hx => hI13.sr.ms x (hsub2 x hx)) (fun x hx => hd8 x (hsub2 x hx)) hE4 (by omega)).mono fun e w14 ⟨he, k14⟩ => ⟨_, he, .of_k0 (k913.trans k14), bsp_intro (fun h => by cases h) (fun _ => ?_)⟩⟩
  have k914 := k913.trans k14
  have k09 : K0 w W9 := ((((((k02.trans k3).trans k4).trans k5).trans k6).trans k7).trans k8).trans k9
  cases hc : headC cs1 with
  | none =>
    refine nn_off (fun b o => ⟨gimp_intro (fun h => by cases h), fun _ => 0, fun _ => 0, ⟨#[]⟩, 0, false, false, none, 0, 0, ⟨#[]⟩, gimp_intro (fun h => by cases h), fun W15 hW15 => bsp_intro (fun h => by cases h) (fun _ => ⟨.refl _ _, rfl, (k09.trans k914).trans (hW15.kk rfl)⟩)⟩)
  | some x =>
    have hXx : x = X := by rw [hc] at hXd; exact hXd
    subst hXx
    have hpos := hne2 (by rw [hc]; rfl)
    cases hcs : cs2 with
    | nil => rw [hcs] at hpos; cases hpos
    | cons z r =>
      have hzd := hX0 z r hcs x hc
      obtain ⟨g, hg, hat⟩ := own_at dfC ho2 (k := 0) (y := z) (fun y _ => dfC_length y) (by decide) (by rw [hcs]; rfl)
      have hat0 : AtL w8 g 0 (dfC z) := by simpa using hat
      have hzm : z ∈ cs2 := by rw [hcs]; simp
      have hlz : (z :: r).length = cs2.length := by rw [hcs]
      refine nn_is hg ⟨gimp_intro fun _ => ⟨by omega, by rw [hlz]; omega⟩, z.d.id, z.d.au, z.d.g, z.d.v, z.d.rm, z.d.md, z.p, z.d.ms.length, z.c, z.d.tx, gimp_intro fun _ W15 hW15 => hat0.k0 ((k9.trans k914).trans (hW15.kk rfl)), fun W15 hW15 => bsp_intro (fun _ => bsp_intro (fun _ => ?_) (fun h => by simp at h)) (fun h => by cases h)⟩
      have k15 : K0 w14 W15 := hW15.kk rfl
      have k815 := (k9.trans k914).trans k15
      refine ⟨(dequal_any z x W15 ((hM2 z hzm).row.k0 k815) (hXr.k0 (k914.trans k15)) (by rw [hzd]; exact oX) oX (by rw [hzd]; omega)).mono fun e w16 ⟨he, k16⟩ => ⟨_, he, .of_k0 k16, ?_, ((k09.trans k914).trans k15).trans k16⟩⟩
      rw [show dEq z.d x.d = true from dEq_iff.2 (by rw [hzd])]
      rfl

end Go.Proofs.YtkkfnlehlkiejaaGreatDoor

/- The formulas of functions by the symbolic evaluator, and that each gives the call's contract. Written by a program (gen.py). No condition. -/
namespace Go.Proofs.YtkkfnlehlkiejaaGreatDoor
set_option maxRecDepth 100000
set_option linter.unusedVariables false

def VC_rgroups (b : Nat) (w : World) (R : Ending → World → Prop) : Prop :=
 CallsS Tryz.prog 50 #[Value.pointer (some (Addr.mk b 0 none)), Value.func (Fn.func 62) #[] #[]] w
 fun (e : Ending) (w' : World) =>
 ∃ (p : Option Addr),
 ∃ (n : Nat),
 ∃ (c : Nat),
 e = Ending.returned (Value.slice p n c) ∧
 KeptL [] w w' ∧
 ∃ (I : List Value → World → Prop),
 ∃ (m : List Value → World → Nat),
 I [Value.int IntKind.i64 0, Value.slice none 0 0, Value.string (ByteArray.mk #[])] w' ∧
 ∀ (x : Int) (p_1 : Option Addr) (n_1 c : Nat) (x_1 : ByteArray) (w' : World),
 I [Value.int IntKind.i64 x, Value.slice p_1 n_1 c, Value.string x_1] w' →
 bsp (decide (x < (↑n : Int)))
 (nn true p fun (b o : Nat) =>
 (0 ≤ x ∧ x < (↑n : Int)) ∧
 ∃ (f : Nat → Int),
 ∃ (f_1 : Nat → Int),
 ∃ (x_2 : ByteArray),
 ∃ (x_3 : Int),
 ∃ (x_4 : Bool),
 ∃ (x_5 : Bool),
 ∃ (p : Option Addr),
 ∃ (n : Nat),
 ∃ (c_1 : Nat),
 ∃ (x_6 : ByteArray),
 AtL w' b (o + x.toNat * 54)
 (arrI IntKind.u8 f 32 0 ++ (arrI IntKind.u8 f_1 16 0 ++ [Value.string x_2, Value.int IntKind.i64 x_3, Value.bool x_4, Value.bool x_5,
 Value.slice p n c_1, Value.string x_6])) ∧
 ∀ (n_2 : Nat),
 ∃ (x_7 : Bool),
 gimp (!x_2.toList == x_1.toList)
 (∀ (W : World),
 Loc w.heap.size
 [Blk.mk n_2 56
 (arrI IntKind.u8 f 32 0 ++ (arrI IntKind.u8 f_1 16 0 ++ [Value.string x_2,
 Value.int IntKind.i64 x_3, Value.bool x_4, Value.bool x_5, Value.slice p n c_1,
 Value.string x_6]))
 (wrM 2)]
 w' W →
 W.cell? (Addr.mk n_2 (0 + 50) none) = some (Value.bool x_7)) ∧
 bsp (!x_2.toList == x_1.toList && !x_7)
 (∀ (n_3 : Nat) (W : World),
 Loc w.heap.size
 [Blk.mk n_3 9 [Value.string x_2] 2,
 Blk.mk n_2 56
 (arrI IntKind.u8 f 32 0 ++ (arrI IntKind.u8 f_1 16 0 ++ [Value.string x_2,
 Value.int IntKind.i64 x_3, Value.bool x_4, Value.bool x_5, Value.slice p n c_1,
 Value.string x_6]))
 (wrM 2)]
 w' W →
 ∃ (base : Nat),
 ∃ (xs : List Value),
 W.ownsRow base 9 1 (Value.slice p_1 n_1 c) n_1 xs ∧
 n_1 + 1 ≤ 9223372036854775807 ∧
 (n_1 + 1) * 16 ≤ 140737488355328 ∧
 base ≤ W.heap.size ∧
 ∀ (p' : Option Addr) (c' : Nat) (w'_1 : World),
 w'_1.ownsRow base 9 1 (Value.slice p' (n_1 + 1) c') (n_1 + 1)
 (xs ++ [Value.string x_2]) →
 W.grownBy w'_1 (Value.slice p_1 n_1 c).ownBlock →
 (n_1 + 1 ≤ c → p' = p_1 ∧ c' = c) →
 KeptL [n_2] W w'_1 ∧
 I
 [Value.int IntKind.i64 (IntKind.i64.wrap (x + 1)),
 Value.slice p' (n_1 + 1) c', Value.string x_2]
 w'_1 ∧
 m
 [Value.int IntKind.i64 (IntKind.i64.wrap (x + 1)),
 Value.slice p' (n_1 + 1) c', Value.string x_2]
 w'_1 <
 m [Value.int IntKind.i64 x, Value.slice p_1 n_1 c, Value.string x_1] w')
 (∀ (W : World),
 Loc w.heap.size
 [Blk.mk n_2 56
 (arrI IntKind.u8 f 32 0 ++ (arrI IntKind.u8 f_1 16 0 ++ [Value.string x_2,
 Value.int IntKind.i64 x_3, Value.bool x_4, Value.bool x_5, Value.slice p n c_1,
 Value.string x_6]))
 (wrM 2)]
 w' W →
 I
 [Value.int IntKind.i64 (IntKind.i64.wrap (x + 1)), Value.slice p_1 n_1 c,
 Value.string x_2]
 W ∧
 m
 [Value.int IntKind.i64 (IntKind.i64.wrap (x + 1)), Value.slice p_1 n_1 c,
 Value.string x_2]
 W <
 m [Value.int IntKind.i64 x, Value.slice p_1 n_1 c, Value.string x_1] w'))
 (R (Ending.returned (Value.slice p_1 n_1 c)) w')
theorem vc_rgroups (b : Nat) (w : World) (R : Ending → World → Prop) (h : VC_rgroups b w R) : Calls Tryz.prog 37 ([Value.pointer
    (some { block := b, off := 0 })] : List Value).toArray w R := by
  have e : execR2 { P := Tryz.prog, loops := [(4, [(10, Ck.int IntKind.i64), (3, Ck.slice), (4, Ck.str)])], pur := pur1, tails := [], joins := [], boxes := [] } Tryz.f37.results.toList R (Tryz.f37.body.getD .skip) (initF [Value.pointer
    (some
      { block := b,
        off :=
          0 })] (Tryz.f37.ntmps - ([Value.pointer
    (some { block := b, off := 0 })] : List Value).length)) w = VC_rgroups b w R := by kernel_rfl
  have hb : Tryz.f37.body = some (Tryz.f37.body.getD .skip) := by kernel_rfl
  exact calls_of_exec2' (P := Tryz.prog) (fn := Tryz.f37) (c := Tryz.f37.body.getD .skip) (args := [Value.pointer
    (some { block := b, off := 0 })]) (w := w) (R := R) pur1_ok Tryz.func37 hb e h

def VC_rgroupsC (id : Nat → Int) (au : Nat → Int) (g : ByteArray) (v : Int) (rm : Bool) (md : Bool) (p : Option Addr) (n : Nat) (c : Nat) (t : ByteArray) (w : World) (R : Ending → World → Prop) : Prop :=
 ∀ (n_1 : Nat) (W : World),
 Loc w.heap.size
 [Blk.mk n_1 56
 (arrI IntKind.u8 id 32 0 ++ (arrI IntKind.u8 au 16 0 ++ [Value.string g,
 Value.int IntKind.i64 v, Value.bool rm, Value.bool md, Value.slice p n c, Value.string t]))
 2]
 w W →
 R (Ending.returned (Value.bool true)) W
theorem vc_rgroupsC (id : Nat → Int) (au : Nat → Int) (g : ByteArray) (v : Int) (rm : Bool) (md : Bool) (p : Option Addr) (n : Nat) (c : Nat) (t : ByteArray) (w : World) (R : Ending → World → Prop) (h : VC_rgroupsC id au g v rm md p n c t w R) : Calls Tryz.prog 62 ([Value.agg
    (arrI IntKind.u8 id 32 0 ++
        (arrI IntKind.u8 au 16 0 ++
          [Value.string g, Value.int IntKind.i64 v, Value.bool rm, Value.bool md, Value.slice p n c,
            Value.string t])).toArray] : List Value).toArray w R := by
  have e : execR2 { P := Tryz.prog, loops := [], pur := pur1, tails := [], joins := [], boxes := [] } Tryz.f62.results.toList R (Tryz.f62.body.getD .skip) (initF [Value.agg
    (arrI IntKind.u8 id 32 0 ++
        (arrI IntKind.u8 au 16 0 ++
          [Value.string g, Value.int IntKind.i64 v, Value.bool rm, Value.bool md, Value.slice p n c,
            Value.string
              t])).toArray] (Tryz.f62.ntmps - ([Value.agg
    (arrI IntKind.u8 id 32 0 ++
        (arrI IntKind.u8 au 16 0 ++
          [Value.string g, Value.int IntKind.i64 v, Value.bool rm, Value.bool md, Value.slice p n c,
            Value.string
              t])).toArray] : List Value).length)) w = VC_rgroupsC id au g v rm md p n c t w R := by kernel_rfl
  have hb : Tryz.f62.body = some (Tryz.f62.body.getD .skip) := by kernel_rfl
  exact calls_of_exec2' (P := Tryz.prog) (fn := Tryz.f62) (c := Tryz.f62.body.getD .skip) (args := [Value.agg
    (arrI IntKind.u8 id 32 0 ++
        (arrI IntKind.u8 au 16 0 ++
          [Value.string g, Value.int IntKind.i64 v, Value.bool rm, Value.bool md, Value.slice p n c,
            Value.string t])).toArray]) (w := w) (R := R) pur1_ok Tryz.func62 hb e h

def VC_rselect (b : Nat) (l : Option Addr) (w : World) (R : Ending → World → Prop) : Prop :=
 CallsS Tryz.prog 37 #[Value.pointer (some (Addr.mk b 0 none))] w fun (e : Ending) (w' : World) =>
 ∃ (p : Option Addr),
 ∃ (n : Nat),
 ∃ (c : Nat),
 e = Ending.returned (Value.slice p n c) ∧
 KeptL [] w w' ∧
 ∃ (I : List Value → World → Prop),
 ∃ (m : List Value → World → Nat),
 I [Value.int IntKind.i64 0, Value.slice none 0 0] w' ∧
 ∀ (x : Int) (p_1 : Option Addr) (n_1 c : Nat) (w' : World),
 I [Value.int IntKind.i64 x, Value.slice p_1 n_1 c] w' →
 bsp (decide (x < (↑n : Int)))
 (nn true p fun (b o : Nat) =>
 (0 ≤ x ∧ x < (↑n : Int)) ∧
 ∃ (x_1 : ByteArray),
 w'.cell? (Addr.mk b (o + x.toNat) none) = some (Value.string x_1) ∧
 CallsS Tryz.prog 46 #[Value.pointer l, Value.string x_1] w' fun (e : Ending) (w'_1 : World) =>
 ∃ (x_2 : Int),
 e = Ending.returned (Value.int IntKind.i64 x_2) ∧
 KeptL [] w' w'_1 ∧
 bsp (x_2 == 1)
 (∀ (n : Nat) (W : World),
 Loc w.heap.size [Blk.mk n 9 [Value.string x_1] 2] w'_1 W →
 ∃ (base : Nat),
 ∃ (xs : List Value),
 W.ownsRow base 9 1 (Value.slice p_1 n_1 c) n_1 xs ∧
 n_1 + 1 ≤ 9223372036854775807 ∧
 (n_1 + 1) * 16 ≤ 140737488355328 ∧
 base ≤ W.heap.size ∧
 ∀ (p' : Option Addr) (c' : Nat) (w'_2 : World),
 w'_2.ownsRow base 9 1 (Value.slice p' (n_1 + 1) c') (n_1 + 1) (xs ++ [Value.string x_1]) →
 W.grownBy w'_2 (Value.slice p_1 n_1 c).ownBlock →
 (n_1 + 1 ≤ c → p' = p_1 ∧ c' = c) →
 KeptL [] W w'_2 ∧
 I [Value.int IntKind.i64 (IntKind.i64.wrap (x + 1)), Value.slice p' (n_1 + 1) c']
 w'_2 ∧
 m [Value.int IntKind.i64 (IntKind.i64.wrap (x + 1)), Value.slice p' (n_1 + 1) c']
 w'_2 <
 m [Value.int IntKind.i64 x, Value.slice p_1 n_1 c] w')
 (I [Value.int IntKind.i64 (IntKind.i64.wrap (x + 1)), Value.slice p_1 n_1 c] w'_1 ∧
 m [Value.int IntKind.i64 (IntKind.i64.wrap (x + 1)), Value.slice p_1 n_1 c] w'_1 <
 m [Value.int IntKind.i64 x, Value.slice p_1 n_1 c] w'))
 (R (Ending.returned (Value.slice p_1 n_1 c)) w')
theorem vc_rselect (b : Nat) (l : Option Addr) (w : World) (R : Ending → World → Prop) (h : VC_rselect b l w R) : Calls Tryz.prog 39 ([Value.pointer
    (some { block := b, off := 0 }),
  Value.pointer l] : List Value).toArray w R := by
  have e : execR2 { P := Tryz.prog, loops := [(3, [(11, Ck.int IntKind.i64), (5, Ck.slice)])], pur := pur1, tails := [], joins := [], boxes := [] } Tryz.f39.results.toList R (Tryz.f39.body.getD .skip) (initF [Value.pointer
    (some { block := b, off := 0 }),
  Value.pointer
    l] (Tryz.f39.ntmps - ([Value.pointer (some { block := b, off := 0 }),
  Value.pointer l] : List Value).length)) w = VC_rselect b l w R := by kernel_rfl
  have hb : Tryz.f39.body = some (Tryz.f39.body.getD .skip) := by kernel_rfl
  exact calls_of_exec2' (P := Tryz.prog) (fn := Tryz.f39) (c := Tryz.f39.body.getD .skip) (args := [Value.pointer
    (some { block := b, off := 0 }),
  Value.pointer l]) (w := w) (R := R) pur1_ok Tryz.func39 hb e h

end Go.Proofs.YtkkfnlehlkiejaaGreatDoor

/- The formulas of functions by the symbolic evaluator, and that each gives the call's contract. Written by a program (gen.py). No condition. -/
namespace Go.Proofs.YtkkfnlehlkiejaaGreatDoor
set_option maxRecDepth 100000
set_option linter.unusedVariables false

def VC_xgroups (ap : Option Addr) (an : Nat) (ac : Nat) (dp : Option Addr) (dn : Nat) (dc : Nat) (w : World) (R : Ending → World → Prop) : Prop :=
 ∀ (n : Nat) (W : World),
 Loc w.heap.size [Blk.mk n 33 [Value.slice ap an ac, Value.slice dp dn dc] 2] w W →
 ∃ (I : List Value → World → Prop),
 ∃ (m : List Value → World → Nat),
 I [Value.int IntKind.i64 0, Value.slice none 0 0] W ∧
 ∀ (x : Int) (p : Option Addr) (n_1 c : Nat) (w' : World),
 I [Value.int IntKind.i64 x, Value.slice p n_1 c] w' →
 Loc w.heap.size [Blk.mk n 33 [Value.slice ap an ac, Value.slice dp dn dc] 0] w' w' →
 bsp (decide (x < (↑dn : Int)))
 (nn true dp fun (b o : Nat) =>
 (0 ≤ x ∧ x < (↑dn : Int)) ∧
 ∃ (x_1 : ByteArray),
 w'.cell? (Addr.mk b (o + x.toNat * 54 + 48) none) = some (Value.string x_1) ∧
 CallsS Tryz.prog 30 #[Value.agg #[Value.slice ap an ac, Value.slice dp dn dc], Value.string x_1] w'
 fun (e : Ending) (w'_1 : World) =>
 ∃ (f : Nat → Int),
 ∃ (f_1 : Nat → Int),
 ∃ (x_2 : ByteArray),
 ∃ (x_3 : Int),
 ∃ (x_4 : Bool),
 ∃ (x_5 : Bool),
 ∃ (p_1 : Option Addr),
 ∃ (n_2 : Nat),
 ∃ (c_1 : Nat),
 ∃ (x_6 : ByteArray),
 ∃ (x_7 : Bool),
 e =
 Ending.returned
 (Value.tuple
 #[Value.agg
 (arrI IntKind.u8 f 32 0 ++ (arrI IntKind.u8 f_1 16 0 ++ [Value.string x_2, Value.int IntKind.i64 x_3,
 Value.bool x_4, Value.bool x_5, Value.slice p_1 n_2 c_1, Value.string x_6])).toArray,
 Value.bool x_7]) ∧
 KeptL [n] w' w'_1 ∧
 ∀ (n_3 : Nat),
 bsp (!x_7)
 (∀ (W : World),
 Loc w.heap.size
 [Blk.mk n 33 [Value.slice ap an ac, Value.slice dp dn dc] 0,
 Blk.mk n_3 50
 (arrI IntKind.u8 f 32 0 ++ (arrI IntKind.u8 f_1 16 0 ++ [Value.string x_2,
 Value.int IntKind.i64 x_3, Value.bool x_4, Value.bool x_5, Value.slice p_1 n_2 c_1,
 Value.string x_6]))
 (wrM 2)]
 w'_1 W →
 I [Value.int IntKind.i64 (IntKind.i64.wrap (x + 1)), Value.slice p n_1 c] W ∧
 m [Value.int IntKind.i64 (IntKind.i64.wrap (x + 1)), Value.slice p n_1 c] W <
 m [Value.int IntKind.i64 x, Value.slice p n_1 c] w')
 (∀ (W : World),
 Loc w.heap.size
 [Blk.mk n 33 [Value.slice ap an ac, Value.slice dp dn dc] 0,
 Blk.mk n_3 50
 (arrI IntKind.u8 f 32 0 ++ (arrI IntKind.u8 f_1 16 0 ++ [Value.string x_2,
 Value.int IntKind.i64 x_3, Value.bool x_4, Value.bool x_5, Value.slice p_1 n_2 c_1,
 Value.string x_6]))
 (wrM 2)]
 w'_1 W →
 ∃ (I_1 : List Value → World → Prop),
 ∃ (m_1 : List Value → World → Nat),
 I_1 [Value.int IntKind.i64 (↑n_1 : Int)] W ∧
 ∀ (x_8 : Int) (w'_2 : World),
 I_1 [Value.int IntKind.i64 x_8] w'_2 →
 Loc w.heap.size
 [Blk.mk n 33 [Value.slice ap an ac, Value.slice dp dn dc] 0,
 Blk.mk n_3 50
 (arrI IntKind.u8 f 32 0 ++ (arrI IntKind.u8 f_1 16 0 ++ [Value.string x_2,
 Value.int IntKind.i64 x_3, Value.bool x_4, Value.bool x_5,
 Value.slice p_1 n_2 c_1, Value.string x_6]))
 0]
 w'_2 w'_2 →
 nn (decide (x_8 > 0)) p fun (b o : Nat) =>
 gimp (decide (x_8 > 0))
 (0 ≤ IntKind.i64.wrap (x_8 - 1) ∧ IntKind.i64.wrap (x_8 - 1) < (↑n_1 : Int)) ∧
 ∃ (x_9 : ByteArray),
 gimp (decide (x_8 > 0))
 (w'_2.cell? (Addr.mk b (o + (IntKind.i64.wrap (x_8 - 1)).toNat) none) =
 some (Value.string x_9)) ∧
 bsp
 (decide (x_8 > 0) &&
 !(Op.bytesLess x_9.toList x_1.toList || x_9.toList == x_1.toList))
 (I_1 [Value.int IntKind.i64 (IntKind.i64.wrap (x_8 - 1))] w'_2 ∧
 m_1 [Value.int IntKind.i64 (IntKind.i64.wrap (x_8 - 1))] w'_2 <
 m_1 [Value.int IntKind.i64 x_8] w'_2)
 (nn (decide (x_8 > 0)) p fun (b o : Nat) =>
 gimp (decide (x_8 > 0))
 (0 ≤ IntKind.i64.wrap (x_8 - 1) ∧
 IntKind.i64.wrap (x_8 - 1) < (↑n_1 : Int)) ∧
 ∃ (x_10 : ByteArray),
 gimp (decide (x_8 > 0))
 (w'_2.cell? (Addr.mk b (o + (IntKind.i64.wrap (x_8 - 1)).toNat) none) =
 some (Value.string x_10)) ∧
 bsp (decide (x_8 > 0) && x_10.toList == x_1.toList)
 (I
 [Value.int IntKind.i64 (IntKind.i64.wrap (x + 1)), Value.slice p n_1 c]
 w'_2 ∧
 m
 [Value.int IntKind.i64 (IntKind.i64.wrap (x + 1)),
 Value.slice p n_1 c]
 w'_2 <
 m [Value.int IntKind.i64 x, Value.slice p n_1 c] w')
 (∀ (n_4 : Nat),
 (0 ≤ x_8 ∧ x_8 ≤ (↑c : Int)) ∧
 ∀ (W : World),
 Loc w.heap.size
 [Blk.mk n 33 [Value.slice ap an ac, Value.slice dp dn dc] 0,
 Blk.mk n_4 9 [] 2,
 Blk.mk n_3 50
 (arrI IntKind.u8 f 32 0 ++ (arrI IntKind.u8 f_1 16 0 ++ [Value.string x_2, Value.int IntKind.i64 x_3, Value.bool x_4,
 Value.bool x_5, Value.slice p_1 n_2 c_1, Value.string x_6]))
 0]
 w'_2 W →
 ∃ (base : Nat),
 ∃ (xs : List Value),
 ∃ (news : List Value),
 W.ownsRow base 9 1 (Value.slice (some (Addr.mk n_4 0 none)) 0 0) 0
 xs ∧
 news.length = x_8.toNat * 1 ∧
 SrcP W p news ∧
 0 + x_8.toNat ≤ 9223372036854775807 ∧
 (0 + x_8.toNat) * 16 ≤ 140737488355328 ∧
 base ≤ W.heap.size ∧
 ∀ (p' : Option Addr) (c' : Nat) (w'_3 : World),
 w'_3.ownsRow base 9 1 (Value.slice p' (0 + x_8.toNat) c')
 (0 + x_8.toNat) (xs ++ news) →
 W.grownBy w'_3
 (Value.slice (some (Addr.mk n_4 0 none)) 0 0).ownBlock →
 (0 + x_8.toNat ≤ 0 →
 p' = some (Addr.mk n_4 0 none) ∧ c' = 0) →
 KeptL [n, n_3] W w'_3 ∧
 ∀ (n_5 : Nat) (W : World),
 Loc w.heap.size
 [Blk.mk n 33
 [Value.slice ap an ac, Value.slice dp dn dc] 0,
 Blk.mk n_5 9 [Value.string x_1] 2,
 Blk.mk n_3 50
 (arrI IntKind.u8 f 32 0 ++ (arrI IntKind.u8 f_1 16 0 ++ [Value.string x_2,
 Value.int IntKind.i64 x_3, Value.bool x_4,
 Value.bool x_5, Value.slice p_1 n_2 c_1,
 Value.string x_6]))
 0]
 w'_3 W →
 ∃ (base : Nat),
 ∃ (xs : List Value),
 W.ownsRow base 9 1
 (Value.slice p' (0 + x_8.toNat) c')
 (0 + x_8.toNat) xs ∧
 0 + x_8.toNat + 1 ≤ 9223372036854775807 ∧
 (0 + x_8.toNat + 1) * 16 ≤ 140737488355328 ∧
 base ≤ W.heap.size ∧
 ∀ (p'_1 : Option Addr) (c'_1 : Nat)
 (w'_4 : World),
 w'_4.ownsRow base 9 1
 (Value.slice p'_1 (0 + x_8.toNat + 1) c'_1)
 (0 + x_8.toNat + 1)
 (xs ++ [Value.string x_1]) →
 W.grownBy w'_4
 (Value.slice p' (0 + x_8.toNat)
 c').ownBlock →
 (0 + x_8.toNat + 1 ≤ c' →
 p'_1 = p' ∧ c'_1 = c') →
 KeptL [n, n_3] W w'_4 ∧
 (0 ≤ x_8 ∧ x_8 ≤ (↑n_1 : Int)) ∧
 ∃ (base : Nat),
 ∃ (xs : List Value),
 ∃ (news : List Value),
 w'_4.ownsRow base 9 1
 (Value.slice p'_1
 (0 + x_8.toNat + 1) c'_1)
 (0 + x_8.toNat + 1) xs ∧
 news.length = (n_1 - x_8.toNat) * 1 ∧
 SrcP w'_4 (slA p c x_8.toNat 1)
 news ∧
 0 + x_8.toNat + 1 +
 (n_1 - x_8.toNat) ≤
 9223372036854775807 ∧
 (0 + x_8.toNat + 1 +
 (n_1 - x_8.toNat)) *
 16 ≤
 140737488355328 ∧
 base ≤ w'_4.heap.size ∧
 ∀ (p' : Option Addr) (c' : Nat)
 (w'_5 : World),
 w'_5.ownsRow base 9 1
 (Value.slice p'
 (0 + x_8.toNat + 1 +
 (n_1 - x_8.toNat))
 c')
 (0 + x_8.toNat + 1 +
 (n_1 - x_8.toNat))
 (xs ++ news) →
 w'_4.grownBy w'_5
 (Value.slice p'_1
 (0 + x_8.toNat + 1)
 c'_1).ownBlock →
 (0 + x_8.toNat + 1 +
 (n_1 - x_8.toNat) ≤
 c'_1 →
 p' = p'_1 ∧ c' = c'_1) →
 KeptL [n, n_3] w'_4 w'_5 ∧
 I
 [Value.int IntKind.i64
 (IntKind.i64.wrap
 (x + 1)),
 Value.slice p'
 (0 + x_8.toNat + 1 +
 (n_1 - x_8.toNat))
 c']
 w'_5 ∧
 m
 [Value.int IntKind.i64
 (IntKind.i64.wrap
 (x + 1)),
 Value.slice p'
 (0 + x_8.toNat + 1 +
 (n_1 - x_8.toNat))
 c']
 w'_5 <
 m
 [Value.int IntKind.i64
 x,
 Value.slice p n_1 c]
 w'))))
 (R (Ending.returned (Value.slice p n_1 c)) w')
theorem vc_xgroups (ap : Option Addr) (an : Nat) (ac : Nat) (dp : Option Addr) (dn : Nat) (dc : Nat) (w : World) (R : Ending → World → Prop) (h : VC_xgroups ap an ac dp dn dc w R) : Calls Tryz.prog 38 ([Value.agg
    #[Value.slice ap an ac, Value.slice dp dn dc]] : List Value).toArray w R := by
  have e : execR2 { P := Tryz.prog, loops := [(3, [(4, Ck.int IntKind.i64), (3, Ck.slice)]), (9, [(8, Ck.int IntKind.i64)])], pur := pur1, tails := [], joins := [], boxes := [] } Tryz.f38.results.toList R (Tryz.f38.body.getD .skip) (initF [Value.agg
    #[Value.slice ap an ac,
      Value.slice dp dn
        dc]] (Tryz.f38.ntmps - ([Value.agg
    #[Value.slice ap an ac,
      Value.slice dp dn dc]] : List Value).length)) w = VC_xgroups ap an ac dp dn dc w R := by kernel_rfl
  have hb : Tryz.f38.body = some (Tryz.f38.body.getD .skip) := by kernel_rfl
  exact calls_of_exec2' (P := Tryz.prog) (fn := Tryz.f38) (c := Tryz.f38.body.getD .skip) (args := [Value.agg
    #[Value.slice ap an ac, Value.slice dp dn dc]]) (w := w) (R := R) pur1_ok Tryz.func38 hb e h

def VC_xselected (ap : Option Addr) (an : Nat) (ac : Nat) (dp : Option Addr) (dn : Nat) (dc : Nat) (s : ByteArray) (w : World) (R : Ending → World → Prop) : Prop :=
 ∀ (n : Nat) (W : World),
 Loc w.heap.size [Blk.mk n 33 [Value.slice ap an ac, Value.slice dp dn dc] 2] w W →
 CallsS Tryz.prog 45 #[Value.string s] W fun (e : Ending) (w' : World) =>
 ∃ (p : Option Addr),
 ∃ (n_1 : Nat),
 ∃ (c : Nat),
 ∃ (x : Int),
 ∃ (x_1 : Int),
 e = Ending.returned (Value.tuple #[Value.slice p n_1 c, Value.int IntKind.i64 x, Value.int IntKind.i64 x_1]) ∧
 KeptL [n] W w' ∧
 CallsS Tryz.prog 38 #[Value.agg #[Value.slice ap an ac, Value.slice dp dn dc]] w'
 fun (e : Ending) (w'_1 : World) =>
 ∃ (p_1 : Option Addr),
 ∃ (n_2 : Nat),
 ∃ (c_1 : Nat),
 e = Ending.returned (Value.slice p_1 n_2 c_1) ∧
 KeptL [n] w' w'_1 ∧
 ∃ (I : List Value → World → Prop),
 ∃ (m : List Value → World → Nat),
 I [Value.int IntKind.i64 0, Value.slice none 0 0] w'_1 ∧
 ∀ (x : Int) (p_2 : Option Addr) (n_3 c_2 : Nat) (w' : World),
 I [Value.int IntKind.i64 x, Value.slice p_2 n_3 c_2] w' →
 Loc w.heap.size [Blk.mk n 33 [Value.slice ap an ac, Value.slice dp dn dc] 0] w' w' →
 bsp (decide (x < (↑n_2 : Int)) && x_1 == 0)
 (nn true p_1 fun (b o : Nat) =>
 (0 ≤ x ∧ x < (↑n_2 : Int)) ∧
 ∃ (x_2 : ByteArray),
 w'.cell? (Addr.mk b (o + x.toNat) none) = some (Value.string x_2) ∧
 CallsS Tryz.prog 47 #[Value.slice p n_1 c, Value.string x_2] w'
 fun (e : Ending) (w'_2 : World) =>
 ∃ (x_3 : Int),
 e = Ending.returned (Value.int IntKind.i64 x_3) ∧
 KeptL [n] w' w'_2 ∧
 bsp (x_3 == 1)
 (nn true p_1 fun (b o : Nat) =>
 (0 ≤ x ∧ x < (↑n_2 : Int)) ∧
 ∃ (x_4 : ByteArray),
 w'_2.cell? (Addr.mk b (o + x.toNat) none) = some (Value.string x_4) ∧
 ∀ (n_4 : Nat) (W : World),
 Loc w.heap.size
 [Blk.mk n 33 [Value.slice ap an ac, Value.slice dp dn dc] 0,
 Blk.mk n_4 9 [Value.string x_4] 2]
 w'_2 W →
 ∃ (base : Nat),
 ∃ (xs : List Value),
 W.ownsRow base 9 1 (Value.slice p_2 n_3 c_2) n_3 xs ∧
 n_3 + 1 ≤ 9223372036854775807 ∧
 (n_3 + 1) * 16 ≤ 140737488355328 ∧
 base ≤ W.heap.size ∧
 ∀ (p' : Option Addr) (c' : Nat) (w'_3 : World),
 w'_3.ownsRow base 9 1 (Value.slice p' (n_3 + 1) c') (n_3 + 1)
 (xs ++ [Value.string x_4]) →
 W.grownBy w'_3 (Value.slice p_2 n_3 c_2).ownBlock →
 (n_3 + 1 ≤ c_2 → p' = p_2 ∧ c' = c_2) →
 KeptL [n] W w'_3 ∧
 I
 [Value.int IntKind.i64 (IntKind.i64.wrap (x + 1)),
 Value.slice p' (n_3 + 1) c']
 w'_3 ∧
 m
 [Value.int IntKind.i64 (IntKind.i64.wrap (x + 1)),
 Value.slice p' (n_3 + 1) c']
 w'_3 <
 m [Value.int IntKind.i64 x, Value.slice p_2 n_3 c_2] w')
 (I [Value.int IntKind.i64 (IntKind.i64.wrap (x + 1)), Value.slice p_2 n_3 c_2] w'_2 ∧
 m [Value.int IntKind.i64 (IntKind.i64.wrap (x + 1)), Value.slice p_2 n_3 c_2] w'_2 <
 m [Value.int IntKind.i64 x, Value.slice p_2 n_3 c_2] w'))
 (R (Ending.returned (Value.slice p_2 n_3 c_2)) w')
theorem vc_xselected (ap : Option Addr) (an : Nat) (ac : Nat) (dp : Option Addr) (dn : Nat) (dc : Nat) (s : ByteArray) (w : World) (R : Ending → World → Prop) (h : VC_xselected ap an ac dp dn dc s w R) : Calls Tryz.prog 40 ([Value.agg
    #[Value.slice ap an ac, Value.slice dp dn dc],
  Value.string s] : List Value).toArray w R := by
  have e : execR2 { P := Tryz.prog, loops := [(5, [(10, Ck.int IntKind.i64), (8, Ck.slice)])], pur := pur1, tails := [], joins := [], boxes := [] } Tryz.f40.results.toList R (Tryz.f40.body.getD .skip) (initF [Value.agg
    #[Value.slice ap an ac, Value.slice dp dn dc],
  Value.string
    s] (Tryz.f40.ntmps - ([Value.agg #[Value.slice ap an ac, Value.slice dp dn dc],
  Value.string s] : List Value).length)) w = VC_xselected ap an ac dp dn dc s w R := by kernel_rfl
  have hb : Tryz.f40.body = some (Tryz.f40.body.getD .skip) := by kernel_rfl
  exact calls_of_exec2' (P := Tryz.prog) (fn := Tryz.f40) (c := Tryz.f40.body.getD .skip) (args := [Value.agg
    #[Value.slice ap an ac, Value.slice dp dn dc],
  Value.string s]) (w := w) (R := R) pur1_ok Tryz.func40 hb e h

end Go.Proofs.YtkkfnlehlkiejaaGreatDoor

/- The formulas of functions by the symbolic evaluator, and that each gives the call's contract. Written by a program (gen.py). No condition. -/
namespace Go.Proofs.YtkkfnlehlkiejaaGreatDoor
set_option maxRecDepth 100000
set_option linter.unusedVariables false

def VC_r1same (p : Option Addr) (n : Nat) (c : Nat) (q : Option Addr) (k : Nat) (d : Nat) (w : World) (R : Ending → World → Prop) : Prop :=
 bsp ((↑n : Int) != (↑k : Int)) (R (Ending.returned (Value.bool false)) w)
 (∃ (I : List Value → World → Prop),
 ∃ (m : List Value → World → Nat),
 I [Value.int IntKind.i64 0] w ∧
 ∀ (x : Int) (w' : World),
 I [Value.int IntKind.i64 x] w' →
 bsp (decide (x < (↑n : Int)))
 (nn true p fun (b o : Nat) =>
 (0 ≤ x ∧ x < (↑n : Int)) ∧
 ∃ (x_1 : ByteArray),
 (∀ (W : World), Loc w.heap.size [] w' W → W.cell? (Addr.mk b (o + x.toNat) none) = some (Value.string x_1)) ∧
 nn true q fun (b o : Nat) =>
 (0 ≤ x ∧ x < (↑k : Int)) ∧
 ∃ (x_2 : ByteArray),
 (∀ (W : World),
 Loc w.heap.size [] w' W → W.cell? (Addr.mk b (o + x.toNat) none) = some (Value.string x_2)) ∧
 bsp (!x_1.toList == x_2.toList)
 (∀ (W : World), Loc w.heap.size [] w' W → R (Ending.returned (Value.bool false)) W)
 (∀ (W : World),
 Loc w.heap.size [] w' W →
 I [Value.int IntKind.i64 (IntKind.i64.wrap (x + 1))] W ∧
 m [Value.int IntKind.i64 (IntKind.i64.wrap (x + 1))] W < m [Value.int IntKind.i64 x] w'))
 (R (Ending.returned (Value.bool true)) w'))
theorem vc_r1same (p : Option Addr) (n : Nat) (c : Nat) (q : Option Addr) (k : Nat) (d : Nat) (w : World) (R : Ending → World → Prop) (h : VC_r1same p n c q k d w R) : Calls Tryz.prog 36 ([Value.slice
    p n c,
  Value.slice q k d] : List Value).toArray w R := by
  have e : execR2 { P := Tryz.prog, loops := [(4, [(5, Ck.int IntKind.i64)])], pur := pur1, tails := [], joins := [], boxes := [] } Tryz.f36.results.toList R (Tryz.f36.body.getD .skip) (initF [Value.slice
    p n c,
  Value.slice q k
    d] (Tryz.f36.ntmps - ([Value.slice p n c,
  Value.slice q k d] : List Value).length)) w = VC_r1same p n c q k d w R := by kernel_rfl
  have hb : Tryz.f36.body = some (Tryz.f36.body.getD .skip) := by kernel_rfl
  exact calls_of_exec2' (P := Tryz.prog) (fn := Tryz.f36) (c := Tryz.f36.body.getD .skip) (args := [Value.slice p n c,
  Value.slice q k d]) (w := w) (R := R) pur1_ok Tryz.func36 hb e h

def VC_lverdn (s : ByteArray) (w : World) (R : Ending → World → Prop) : Prop :=
 CallsS Tryz.prog 67 #[Value.pointer none] w fun (e : Ending) (w' : World) =>
 ∃ (x : Int),
 e = Ending.returned (Value.int IntKind.i64 x) ∧
 KeptL [] w w' ∧
 ∃ (I : List Value → World → Prop),
 ∃ (m : List Value → World → Nat),
 I [Value.int IntKind.i64 (IntKind.i64.wrap (x - 1))] w' ∧
 ∀ (x : Int) (w' : World),
 I [Value.int IntKind.i64 x] w' →
 bsp (decide (x ≥ 0))
 (true = false ∧
 ∃ (p : Option Addr),
 ∃ (n : Nat),
 ∃ (c : Nat),
 w'.cell? (Addr.mk 0 1 none) = some (Value.slice p n c) ∧
 nn true p fun (b o : Nat) =>
 (0 ≤ x ∧ x < (↑n : Int)) ∧
 ∃ (x_1 : Option Addr),
 w'.cell? (Addr.mk b (o + x.toNat * 2) none) = some (Value.pointer x_1) ∧
 CallsS Tryz.prog 68 #[Value.pointer x_1, Value.string s] w' fun (e : Ending) (w'_1 : World) =>
 ∃ (x_2 : Bool),
 e = Ending.returned (Value.bool x_2) ∧
 KeptL [] w' w'_1 ∧
 bsp x_2
 (true = false ∧
 ∃ (p : Option Addr),
 ∃ (n : Nat),
 ∃ (c : Nat),
 w'_1.cell? (Addr.mk 0 1 none) = some (Value.slice p n c) ∧
 nn true p fun (b o : Nat) =>
 (0 ≤ x ∧ x < (↑n : Int)) ∧
 ∃ (x_3 : Int),
 w'_1.cell? (Addr.mk b (o + x.toNat * 2 + 1) none) = some (Value.int IntKind.i64 x_3) ∧
 R (Ending.returned (Value.int IntKind.i64 x_3)) w'_1)
 (I [Value.int IntKind.i64 (IntKind.i64.wrap (x - 1))] w'_1 ∧
 m [Value.int IntKind.i64 (IntKind.i64.wrap (x - 1))] w'_1 < m [Value.int IntKind.i64 x] w'))
 (R (Ending.returned (Value.int IntKind.i64 0)) w')
theorem vc_lverdn (s : ByteArray) (w : World) (R : Ending → World → Prop) (h : VC_lverdn s w R) : Calls Tryz.prog 46 ([Value.pointer
    none,
  Value.string s] : List Value).toArray w R := by
  have e : execR2 { P := Tryz.prog, loops := [(2, [(5, Ck.int IntKind.i64)])], pur := pur1, tails := [], joins := [], boxes := [] } Tryz.f46.results.toList R (Tryz.f46.body.getD .skip) (initF [Value.pointer
    none,
  Value.string
    s] (Tryz.f46.ntmps - ([Value.pointer none,
  Value.string s] : List Value).length)) w = VC_lverdn s w R := by kernel_rfl
  have hb : Tryz.f46.body = some (Tryz.f46.body.getD .skip) := by kernel_rfl
  exact calls_of_exec2' (P := Tryz.prog) (fn := Tryz.f46) (c := Tryz.f46.body.getD .skip) (args := [Value.pointer none,
  Value.string s]) (w := w) (R := R) pur1_ok Tryz.func46 hb e h

def VC_llenn (w : World) (R : Ending → World → Prop) : Prop :=
 R (Ending.returned (Value.int IntKind.i64 0)) w
theorem vc_llenn (w : World) (R : Ending → World → Prop) (h : VC_llenn w R) : Calls Tryz.prog 67 ([Value.pointer
    none] : List Value).toArray w R := by
  have e : execR2 { P := Tryz.prog, loops := [], pur := pur1, tails := [], joins := [], boxes := [] } Tryz.f67.results.toList R (Tryz.f67.body.getD .skip) (initF [Value.pointer
    none] (Tryz.f67.ntmps - ([Value.pointer none] : List Value).length)) w = VC_llenn w R := by kernel_rfl
  have hb : Tryz.f67.body = some (Tryz.f67.body.getD .skip) := by kernel_rfl
  exact calls_of_exec2' (P := Tryz.prog) (fn := Tryz.f67) (c := Tryz.f67.body.getD .skip) (args := [Value.pointer
    none]) (w := w) (R := R) pur1_ok Tryz.func67 hb e h

end Go.Proofs.YtkkfnlehlkiejaaGreatDoor

/- Chapter 21: groups that exist: plain, and the contracts of Groups, Select, the reference's Groups, Selected. Lists that are not too long. -/
namespace Go.Proofs.YtkkfnlehlkiejaaGreatDoor
open Go.RowKit Go.Maps

/-! ### Plain -/
def cbs (a b : ByteArray) : Int := Lib.compareBytes a.data.toList b.data.toList
theorem cbs_ord : Ord3 cbs := cb_ord (fun x : ByteArray => x.data.toList)
theorem cbs_zero {a b : ByteArray} (h : cbs a b = 0) : a = b := str_eq (by rw [ByteArray.toList_eq, ByteArray.toList_eq]; exact cb_zero _ _ h)
theorem cbs_self (a : ByteArray) : cbs a a = 0 := cb_self _
theorem bl_cbs (a b : ByteArray) : Op.bytesLess a.toList b.toList = decide (cbs a b < 0) := by rw [ByteArray.toList_eq, ByteArray.toList_eq, bl_cb]; rfl
def Asc (l : List ByteArray) : Prop := l.Pairwise fun a b => cbs a b < 0
theorem asc_ins {out : List ByteArray} {g : ByteArray} {a : Nat} (hs : Asc out) (hhi : ∀ j z, a ≤ j → out[j]? = some z → cbs g z < 0) (hlo : ∀ z, 0 < a → out[a - 1]? = some z → cbs z g < 0) (ha : a ≤ out.length) : Asc (out.take a ++ g :: out.drop a) := by
  have hlow : ∀ y ∈ out.take a, cbs y g < 0 := fun y hy => by
    obtain ⟨j, hj⟩ := List.getElem?_of_mem hy
    rw [List.getElem?_take] at hj
    split at hj
    · rename_i hja
      have hlt : a - 1 < out.length := by omega
      have hz := hlo out[a - 1] (by omega) (List.getElem?_eq_getElem hlt)
      rcases Nat.lt_or_ge j (a - 1) with h | h
      · have hjl : j < out.length := by omega
        rw [List.getElem?_eq_getElem hjl] at hj
        cases hj
        exact cbs_ord.tlt _ _ _ (List.pairwise_iff_getElem.1 hs j (a - 1) hjl hlt h) hz
      · have : j = a - 1 := by omega
        subst this
        rw [List.getElem?_eq_getElem hlt] at hj
        cases hj
        exact hz
    · cases hj
  have hhi : ∀ y ∈ out.drop a, cbs g y < 0 := fun y hy => by
    obtain ⟨j, hj⟩ := List.getElem?_of_mem hy
    rw [List.getElem?_drop] at hj
    exact hhi _ y (by omega) hj
  have hsp : List.Pairwise (fun a b => cbs a b < 0) out := hs
  rw [← List.take_append_drop a out, List.pairwise_append] at hsp
  show List.Pairwise _ _
  rw [List.pairwise_append]
  refine ⟨hsp.1, List.pairwise_cons.2 ⟨hhi, hsp.2.1⟩, fun u hu v hv => ?_⟩
  rcases List.mem_cons.1 hv with rfl | hv
  · exact hlow u hu
  · exact hsp.2.2 u hu v hv
theorem asc_uniq : ∀ {l1 l2 : List ByteArray}, Asc l1 → Asc l2 → (∀ x, x ∈ l1 ↔ x ∈ l2) → l1 = l2
  | [], [], _, _, _ => rfl
  | [], b :: s, _, _, h => absurd ((h b).2 List.mem_cons_self) (by simp)
  | a :: r, [], _, _, h => absurd ((h a).1 List.mem_cons_self) (by simp)
  | a :: r, b :: s, h1, h2, h => by
    have i1 := List.pairwise_cons.1 h1
    have i2 := List.pairwise_cons.1 h2
    have irr : ∀ x, ¬ cbs x x < 0 := fun x hx => by rw [cbs_self] at hx; omega
    have hab : a = b := Classical.byContradiction fun hne => by
      have h3 : a ∈ s := by
        rcases List.mem_cons.1 ((h a).1 List.mem_cons_self) with e | e
        · exact absurd e hne
        · exact e
      have h4 : b ∈ r := by
        rcases List.mem_cons.1 ((h b).2 List.mem_cons_self) with e | e
        · exact absurd e.symm hne
        · exact e
      exact irr a (cbs_ord.tlt _ _ _ (i1.1 b h4) (i2.1 a h3))
    subst hab
    rw [asc_uniq i1.2 i2.2 fun x => ⟨fun hx => by
      rcases List.mem_cons.1 ((h x).1 (List.mem_cons_of_mem _ hx)) with e | e
      · subst e; exact absurd (i1.1 x hx) (irr x)
      · exact e, fun hx => by
      rcases List.mem_cons.1 ((h x).2 (List.mem_cons_of_mem _ hx)) with e | e
      · subst e; exact absurd (i2.1 x hx) (irr x)
      · exact e⟩]
/-- The groups of a sorted list of definitions. -/
def grpP : List Df → ByteArray → List ByteArray
  | [], _ => []
  | d :: r, last => if d.g ≠ last ∧ d.rm = false then d.g :: grpP r d.g else grpP r d.g
theorem mem_grpP : ∀ (L : List Df) (last : ByteArray), (L.Pairwise fun a b => cbs a.g b.g ≤ 0) → (∀ d ∈ L, cbs last d.g ≤ 0) → ∀ g, g ∈ grpP L last ↔ g ≠ last ∧ (headD (L.filter fun d => decide (d.g = g))).isSome = true
  | [], last, _, _, g => by simp [grpP, headD]
  | d :: r, last, hs, hl, g => by
    have hp := List.pairwise_cons.1 hs
    have ih := mem_grpP r d.g hp.2 hp.1 g
    have hdl := hl d List.mem_cons_self
    have hbig : d.g ≠ last → (headD (r.filter fun d => decide (d.g = g))).isSome = true → g ≠ last := fun hd hh e => by
      subst e
      cases hf : r.filter (fun d => decide (d.g = g)) with
      | nil => rw [hf] at hh; cases hh
      | cons x t =>
        have hx : x ∈ r.filter (fun d => decide (d.g = g)) := by rw [hf]; simp
        have hxr := (List.mem_filter.1 hx).1
        have hxg : x.g = g := by simpa using (List.mem_filter.1 hx).2
        have h1 := hp.1 x hxr
        rw [hxg] at h1
        have h2 := cbs_ord.anti d.g g
        exact hd (cbs_zero (by omega))
    by_cases hg : d.g = g
    · have hf : (d :: r).filter (fun d => decide (d.g = g)) = d :: r.filter (fun d => decide (d.g = g)) := by rw [List.filter_cons, if_pos (by simpa using hg)]
      have hh : (headD ((d :: r).filter fun d => decide (d.g = g))).isSome = !d.rm := by
        rw [hf]
        show (if d.rm = true then none else some d : Option Df).isSome = _
        cases d.rm <;> rfl
      rw [hh]
      have hn : ¬ g ∈ grpP r d.g := fun h => (ih.1 h).1 hg.symm
      unfold grpP
      split
      · rename_i h
        rw [← hg]
        constructor
        · intro _; exact ⟨h.1, by rw [h.2]; rfl⟩
        · intro _; simp
      · rename_i h
        constructor
        · intro h1; exact absurd h1 hn
        · rintro ⟨h1, h2⟩
          exfalso
          refine h ⟨by rw [hg]; exact h1, ?_⟩
          cases hd : d.rm
          · rfl
          · rw [hd] at h2; cases h2
    · have hf : (d :: r).filter (fun d => decide (d.g = g)) = r.filter (fun d => decide (d.g = g)) := by rw [List.filter_cons, if_neg (by simpa using hg)]
      rw [hf]
      have hgd : g ≠ d.g := fun e => hg e.symm
      have hmem : g ∈ grpP (d :: r) last ↔ g ∈ grpP r d.g := by
        rw [grpP]
        split
        · simp [hgd]
        · rfl
      rw [hmem, ih]
      constructor
      · rintro ⟨_, h2⟩
        refine ⟨?_, h2⟩
        by_cases hd : d.g = last
        · rw [← hd]; exact hgd
        · exact hbig hd h2
      · rintro ⟨_, h2⟩; exact ⟨hgd, h2⟩
theorem asc_grpP : ∀ (L : List Df) (last : ByteArray), (L.Pairwise fun a b => cbs a.g b.g ≤ 0) → (∀ d ∈ L, cbs last d.g ≤ 0) → Asc (grpP L last) ∧ ∀ g ∈ grpP L last, cbs last g < 0
  | [], last, _, _ => ⟨.nil, fun g h => by cases h⟩
  | d :: r, last, hs, hl => by
    have hp := List.pairwise_cons.1 hs
    obtain ⟨i1, i2⟩ := asc_grpP r d.g hp.2 hp.1
    have hdl := hl d List.mem_cons_self
    have hle : ∀ g, cbs d.g g < 0 → cbs last g < 0 := fun g hg => by
      rcases Int.lt_or_eq_of_le hdl with h | h
      · exact cbs_ord.tlt _ _ _ h hg
      · exact cbs_ord.el _ _ _ h hg
    unfold grpP
    split
    · rename_i h
      refine ⟨List.pairwise_cons.2 ⟨fun g hg => i2 g hg, i1⟩, fun g hg => ?_⟩
      rcases List.mem_cons.1 hg with rfl | hg
      · rcases Int.lt_or_eq_of_le hdl with h2 | h2
        · exact h2
        · exact absurd (cbs_zero h2).symm h.1
      · exact hle g (i2 g hg)
    · exact ⟨i1, fun g hg => hle g (i2 g hg)⟩
theorem cbs_nil (g : ByteArray) : cbs ⟨#[]⟩ g ≤ 0 := by
  unfold cbs
  show Lib.compareBytes [] g.data.toList ≤ 0
  cases g.data.toList with
  | nil => decide
  | cons a r => show (-1 : Int) ≤ 0; decide
theorem cfd_g {a b : Df} (h : ¬ cfd b a < 0) : cbs a.g b.g ≤ 0 := by
  have h1 : cbs a.g b.g = - cbs b.g a.g := cbs_ord.anti _ _
  have h2 : ¬ cbs b.g a.g < 0 := fun h3 => h (by
    have h4 : cfG (DX.mk b none 0) (DX.mk a none 0) < 0 := h3
    unfold cfd cfD
    rw [if_pos (by omega)]
    exact h4)
  omega

/-! ### The program -/
theorem strP_own {w : World} {base : Nat} {e : TypeId} {p : Option Addr} {n c : Nat} {l : List ByteArray} (ho : w.ownsRow base e 1 (.slice p n c) n (l.map .string)) : StrP w p l := fun k z hk => by
  obtain ⟨g, h1, h2⟩ := own_cellL ho (i := k) (v := .string z) (by rw [List.getElem?_map, hk]; rfl)
  exact ⟨g, 0, h1, by rw [Nat.zero_add]; exact h2⟩
set_option maxRecDepth 100000 in
theorem rgroupsC_any (x : DX) (w : World) : Calls Tryz.prog 62 #[dfV x] w fun e w' => e = .returned (.bool true) ∧ K0 w w' :=
  vc_rgroupsC x.d.id x.d.au x.d.g x.d.v x.d.rm x.d.md x.p x.d.ms.length x.c x.d.tx w _ (fun _ _ hW => ⟨rfl, hW.kk rfl⟩)
set_option maxRecDepth 100000 in
set_option maxHeartbeats 4000000 in
theorem rgroups_any {w : World} {b mb : Nat} {A : List Au} {l : List (List Int × DX)} (h : Reg w b mb A l) (hl : l.length ≤ 4096) :
    Calls Tryz.prog 37 #[.pointer (some ⟨b, 0, none⟩)] w fun e w' => (∃ (L : List Df) (p : Option Addr) (c : Nat), L.Perm (l.map fun q => q.2.d) ∧ (L.Pairwise fun a b => ¬ cfd b a < 0) ∧ e = .returned (.slice p (grpP L ⟨#[]⟩).length c) ∧
      w'.ownsRow w.heap.size 9 1 (.slice p (grpP L ⟨#[]⟩).length c) (grpP L ⟨#[]⟩).length ((grpP L ⟨#[]⟩).map Value.string)) ∧ K0 w w' := by
  refine vc_rgroups b w _ ⟨(rpick_any h hl 62 #[] #[] (by kernel_rfl) (fun _ => true) (fun q _ w1 _ => rgroupsC_any q.2 w1)).mono fun e w1 ⟨⟨cs, p, c, he, ho, hp, hs, hM⟩, k1⟩ => ⟨_, _, _, he, .of_k0 k1, ?_⟩⟩
  have hLp : (cs.map fun x => x.d).Perm (l.map fun q => q.2.d) := by
    have e1 : accL (fun _ => true) l = l.map fun q => q.2.d := by unfold accL; rw [List.filter_eq_self.2 (fun _ _ => rfl), List.map_map]; rfl
    rw [e1] at hp; exact hp
  have hLs : (cs.map fun x => x.d).Pairwise fun a b => ¬ cfd b a < 0 := by rw [List.pairwise_map]; exact hs
  have hcl : cs.length ≤ 4096 := by have := hLp.length_eq; simp only [List.length_map] at this; omega
  generalize hL : (cs.map fun x => x.d) = L at *
  have hrow : RowA dfC 54 w1 p cs := RowA.own ho dfC_length (by decide)
  refine ⟨fun vs w' => ∃ (k : Nat) (acc : List ByteArray) (q : Option Addr) (d : Nat) (last : ByteArray), vs = [.int .i64 (k : Int), .slice q acc.length d, .string last] ∧ k ≤ cs.length ∧ acc.length ≤ k ∧ acc ++ grpP (L.drop k) last = grpP L ⟨#[]⟩ ∧
      w'.ownsRow w1.heap.size 9 1 (.slice q acc.length d) acc.length (acc.map Value.string) ∧ K0 w1 w',
    fun vs _ => (match vs with | .int _ a :: _ => cs.length - a.toNat | _ => 0), ⟨0, [], none, 0, ⟨#[]⟩, rfl, by omega, by simp, rfl, World.ownsRow_nil _ _ _ _, .refl _ _⟩, ?_⟩
  rintro x q0 n0 d0 last0 w2 ⟨k, acc, q, d, last, hv, hk, hak, hacc, ho2, k2⟩
  simp only [List.cons.injEq, Value.int.injEq, Value.slice.injEq, Value.string.injEq, true_and, and_true] at hv
  obtain ⟨rfl, ⟨rfl, rfl, rfl⟩, rfl⟩ := hv
  refine bsp_intro (fun hlt => ?_) (fun hge => ?_)
  rotate_left
  · have hk2 : k = cs.length := by simp at hge; omega
    have hnil : L.drop k = [] := by rw [← hL, hk2]; exact List.drop_eq_nil_of_le (by simp)
    rw [hnil] at hacc
    have hacc : acc = grpP L ⟨#[]⟩ := by simpa [grpP] using hacc
    exact ⟨⟨L, q0, d0, hLp, hLs, by rw [← hacc], by rw [← hacc]; exact own_base ho2 k1.size⟩, k1.trans k2⟩
  have hlt : k < cs.length := by simp at hlt; omega
  obtain ⟨y, bb, oo, hy, hpb, hat⟩ := (hrow.k0 k2).get hlt
  rw [Int.toNat_natCast]
  have hdrop : L.drop k = y.d :: L.drop (k + 1) := by
    have h1 : L[k]? = some y.d := by rw [← hL, List.getElem?_map, hy]; rfl
    obtain ⟨hk', e⟩ := List.getElem?_eq_some_iff.1 h1
    rw [List.drop_eq_getElem_cons hk', e]
  rw [hdrop] at hacc
  refine nn_is hpb ⟨⟨by omega, by omega⟩, y.d.id, y.d.au, y.d.g, y.d.v, y.d.rm, y.d.md, y.p, y.d.ms.length, y.c, y.d.tx, hat, fun n2 => ⟨y.d.rm, gimp_intro fun _ W hW => cell_at (hW.cells 0 rfl) rfl, bsp_intro (fun hc => fun n3 W3 hW3 => ?_) (fun hc => fun W3 hW3 => ?_)⟩⟩
  · rw [str_beq] at hc
    have hc : y.d.g ≠ last0 ∧ y.d.rm = false := by simpa using hc
    rw [grpP, if_pos hc] at hacc
    have k3 : K0 w2 W3 := hW3.kk rfl
    have ho3 := owns_kp ho2 k3 (fun _ _ h => h)
    refine ⟨w1.heap.size, _, ho3, by omega, by omega, (k2.trans k3).size, fun p5 c5 w5 ho5 hg5 _ => ?_⟩
    have kg := kp_grown hg5
    refine ⟨.of_kp kg (fun z hz e => ?_), ⟨k + 1, acc ++ [y.d.g], p5, c5, y.d.g, ?_, hlt, ?_, ?_, ?_, (k2.trans k3).fresh kg (fun j hj e => by have := own_ge ho3 e; omega)⟩, by rw [inc64 (by omega)]; simp only [Int.toNat_natCast]; omega⟩
    · simp only [List.mem_cons, List.not_mem_nil, or_false] at hz
      subst hz
      exact own_not ho3 (hW3.cells 1 rfl) rfl e
    · rw [inc64 (by omega), List.length_append]; rfl
    · rw [List.length_append]; simp only [List.length_cons, List.length_nil]; omega
    · rw [List.append_assoc]; exact hacc
    · rw [List.length_append, List.map_append]; exact ho5
  · rw [str_beq] at hc
    have hc : ¬ (y.d.g ≠ last0 ∧ y.d.rm = false) := fun ⟨h1, h2⟩ => by rw [decide_eq_false h1, h2] at hc; cases hc
    rw [grpP, if_neg hc] at hacc
    have k3 : K0 w2 W3 := hW3.kk rfl
    exact ⟨⟨k + 1, acc, q0, d0, y.d.g, by rw [inc64 (by omega)], hlt, by omega, hacc, owns_kp ho2 k3 (fun _ _ h => h), k2.trans k3⟩, by rw [inc64 (by omega)]; simp only [Int.toNat_natCast]; omega⟩
theorem lverdn_any (s : ByteArray) (w : World) : Calls Tryz.prog 46 #[.pointer none, .string s] w fun e w' => e = .returned (.int .i64 0) ∧ K0 w w' := by
  refine vc_lverdn s w _ ⟨(vc_llenn w (fun e w' => e = .returned (.int .i64 0) ∧ K0 w w') ⟨rfl, .refl _ _⟩).mono fun e w1 ⟨he, k1⟩ => ⟨_, he, .of_k0 k1, fun vs w' => vs = [.int .i64 (-1)] ∧ K0 w w', fun _ _ => 0, ⟨rfl, k1⟩, ?_⟩⟩
  rintro x w2 ⟨hv, k2⟩
  simp only [List.cons.injEq, Value.int.injEq, true_and, and_true] at hv
  subst hv
  exact bsp_intro (fun h => by simp at h) (fun _ => ⟨rfl, k2⟩)
set_option maxRecDepth 100000 in
set_option maxHeartbeats 4000000 in
theorem rselect_any {w : World} {b mb : Nat} {A : List Au} {l : List (List Int × DX)} (h : Reg w b mb A l) (hl : l.length ≤ 4096) (lp : Option Addr) (v : ByteArray → Int) (hv : ∀ (g : ByteArray) (wx : World), g.size ≤ 80 → K0 w wx → Calls Tryz.prog 46 #[.pointer lp, .string g] wx fun e w' => e = .returned (.int .i64 (v g)) ∧ K0 wx w')
    (hsz : ∀ (L : List Df), L.Perm (l.map fun q => q.2.d) → ∀ g ∈ grpP L ⟨#[]⟩, g.size ≤ 80) (hlen : ∀ (L : List Df), L.Perm (l.map fun q => q.2.d) → (grpP L ⟨#[]⟩).length ≤ 1000000) :
    Calls Tryz.prog 39 #[.pointer (some ⟨b, 0, none⟩), .pointer lp] w fun e w' => (∃ (L : List Df) (p : Option Addr) (c : Nat), L.Perm (l.map fun q => q.2.d) ∧ (L.Pairwise fun a b => ¬ cfd b a < 0) ∧ e = .returned (.slice p ((grpP L ⟨#[]⟩).filter fun g => v g == 1).length c) ∧
      StrP w' p ((grpP L ⟨#[]⟩).filter fun g => v g == 1)) ∧ K0 w w' := by
  refine vc_rselect b lp w _ ⟨(rgroups_any h hl).mono fun e w1 ⟨⟨L, p, c, hLp, hLs, he, ho⟩, k1⟩ => ⟨_, _, _, he, .of_k0 k1, ?_⟩⟩
  have hsz := hsz L hLp
  have hlen := hlen L hLp
  obtain ⟨G, hGd⟩ : ∃ G, G = grpP L ⟨#[]⟩ := ⟨_, rfl⟩
  rw [← hGd] at hsz hlen he ho
  rw [← hGd]
  have hG := strP_own ho
  refine ⟨fun vs w' => ∃ (k : Nat) (acc : List ByteArray) (q : Option Addr) (d : Nat), vs = [.int .i64 (k : Int), .slice q acc.length d] ∧ k ≤ G.length ∧ acc.length ≤ k ∧ acc = (G.take k).filter (fun g => v g == 1) ∧
      w'.ownsRow w1.heap.size 9 1 (.slice q acc.length d) acc.length (acc.map Value.string) ∧ K0 w1 w',
    fun vs _ => (match vs with | .int _ a :: _ => G.length - a.toNat | _ => 0), ⟨0, [], none, 0, rfl, by omega, by simp, rfl, World.ownsRow_nil _ _ _ _, .refl _ _⟩, ?_⟩
  rintro x q0 n0 d0 w2 ⟨k, acc, q, d, hvs, hk, hak, hacc, ho2, k2⟩
  simp only [List.cons.injEq, Value.int.injEq, Value.slice.injEq, true_and, and_true] at hvs
  obtain ⟨rfl, rfl, rfl, rfl⟩ := hvs
  refine bsp_intro (fun hlt => ?_) (fun hge => ?_)
  rotate_left
  · have hk2 : k = G.length := by simp at hge; omega
    rw [hk2, List.take_length] at hacc
    exact ⟨⟨L, q0, d0, hLp, hLs, by rw [← hGd, ← hacc], by rw [← hGd, ← hacc]; exact strP_own ho2⟩, k1.trans k2⟩
  have hlt : k < G.length := by simp at hlt; omega
  obtain ⟨g, bb, oo, hg, hpb, hcell⟩ := (hG.k0 k2).get hlt
  have hgs := hsz g (List.mem_of_getElem? hg)
  rw [Int.toNat_natCast]
  refine nn_is hpb ⟨⟨by omega, by omega⟩, g, hcell, ⟨(hv g w2 hgs (k1.trans k2)).mono fun e w3 ⟨he, k3⟩ => ⟨_, he, .of_k0 k3, bsp_intro (fun hc => fun n3 W3 hW3 => ?_) (fun hc => ?_)⟩⟩⟩
  · have kk3 : K0 w3 W3 := hW3.kk rfl
    have k23 := k3.trans kk3
    have ho3 := owns_kp ho2 k23 (fun _ _ h => h)
    refine ⟨w1.heap.size, _, ho3, by omega, by omega, (k2.trans k23).size, fun p5 c5 w5 ho5 hg5 _ => ?_⟩
    have kg := kp_grown hg5
    refine ⟨.of_kp kg (fun z hz e => by cases hz), ⟨k + 1, acc ++ [g], p5, c5, ?_, hlt, ?_, ?_, ?_, (k2.trans k23).fresh kg (fun j hj e => by have := own_ge ho3 e; omega)⟩, by rw [inc64 (by omega)]; simp only [Int.toNat_natCast]; omega⟩
    · rw [inc64 (by omega), List.length_append]; rfl
    · rw [List.length_append]; simp only [List.length_cons, List.length_nil]; omega
    · rw [take_snoc hg, List.filter_append, ← hacc, List.filter_cons, if_pos hc]; rfl
    · rw [List.length_append, List.map_append]; exact ho5
  · refine ⟨⟨k + 1, acc, q0, d0, by rw [inc64 (by omega)], hlt, by omega, ?_, owns_kp ho2 k3 (fun _ _ h => h), k2.trans k3⟩, by rw [inc64 (by omega)]; simp only [Int.toNat_natCast]; omega⟩
    rw [take_snoc hg, List.filter_append, ← hacc, List.filter_cons, if_neg (by rw [hc]; decide)]; simp

end Go.Proofs.YtkkfnlehlkiejaaGreatDoor

/- The formulas of functions by the symbolic evaluator, and that each gives the call's contract. Written by a program (gen.py). No condition. -/
namespace Go.Proofs.YtkkfnlehlkiejaaGreatDoor
set_option maxRecDepth 100000
set_option linter.unusedVariables false

def VC_lrgroups (ap : Option Addr) (an : Nat) (ac : Nat) (op : Option Addr) (on : Nat) (oc : Nat) (s : ByteArray) (w : World) (R : Ending → World → Prop) : Prop :=
 ∀ (n : Nat) (W : World),
 Loc w.heap.size [Blk.mk n 42 [Value.slice ap an ac, Value.slice op on oc] 2] w W →
 CallsS Tryz.prog 18 #[Value.agg #[Value.slice ap an ac, Value.slice op on oc]] W fun (e : Ending) (w' : World) =>
 ∃ (x : Option Addr),
 ∃ (p : Option Addr),
 ∃ (n_1 : Nat),
 ∃ (c : Nat),
 ∃ (p_1 : Option Addr),
 ∃ (n_2 : Nat),
 ∃ (c_1 : Nat),
 ∃ (x_1 : Bool),
 e =
 Ending.returned
 (Value.tuple
 #[Value.pointer x, Value.agg #[Value.slice p n_1 c, Value.slice p_1 n_2 c_1], Value.bool x_1]) ∧
 KeptL [n] W w' ∧
 ∀ (n_3 : Nat) (W : World),
 Loc w.heap.size
 [Blk.mk n_3 33 [Value.slice p n_1 c, Value.slice p_1 n_2 c_1] (wrM 2),
 Blk.mk n 42 [Value.slice ap an ac, Value.slice op on oc] 0]
 w' W →
 bsp (!(!x_1 || x.isNone))
 (CallsS Tryz.prog 15 #[] W fun (e : Ending) (w' : World) =>
 ∃ (x_2 : Bool),
 e = Ending.returned (Value.bool x_2) ∧
 KeptL [n_3, n] W w' ∧
 bsp (false || !x_2)
 (bsp x_1
 (CallsS Tryz.prog 15 #[] w' fun (e : Ending) (w'_1 : World) =>
 ∃ (x : Bool),
 e = Ending.returned (Value.bool x) ∧
 KeptL [n_3, n] w' w'_1 ∧ R (Ending.returned (Value.bool (true && x))) w'_1)
 (KeptL [n_3, n] w' w' ∧ R (Ending.returned (Value.bool false)) w'))
 (((0 ≤ if 200 < (↑s.size : Int) then 200 else (↑s.size : Int)) ∧
 (if 200 < (↑s.size : Int) then 200 else (↑s.size : Int)) ≤ (↑s.size : Int)) ∧
 CallsS Tryz.prog 35
 #[Value.string (s.extract 0 (if 200 < (↑s.size : Int) then 200 else (↑s.size : Int)).toNat)] w'
 fun (e : Ending) (w'_1 : World) =>
 ∃ (x_3 : Option Addr),
 ∃ (x_4 : Int),
 ∃ (x_5 : Int),
 e =
 Ending.returned
 (Value.tuple #[Value.pointer x_3, Value.int IntKind.i64 x_4, Value.int IntKind.i64 x_5]) ∧
 KeptL [n_3, n] w' w'_1 ∧
 ∀ (W : World),
 Loc w.heap.size
 [Blk.mk n_3 33 [Value.slice p n_1 c, Value.slice p_1 n_2 c_1] 0,
 Blk.mk n 42 [Value.slice ap an ac, Value.slice op on oc] 0]
 w'_1 W →
 ∃ (S : World → Prop),
 S W ∧
 ∃ (p : Option Addr),
 ∃ (n_4 : Nat),
 ∃ (c : Nat),
 ∃ (p_2 : Option Addr),
 ∃ (n_5 : Nat),
 ∃ (c_2 : Nat),
 (∀ (w' : World),
 S w' → AtL w' n_3 0 [Value.slice p n_4 c, Value.slice p_2 n_5 c_2]) ∧
 CallsS Tryz.prog 37 #[Value.pointer x] W fun (e : Ending) (w' : World) =>
 ∃ (p_3 : Option Addr),
 ∃ (n_6 : Nat),
 ∃ (c_3 : Nat),
 e = Ending.returned (Value.slice p_3 n_6 c_3) ∧
 S w' ∧
 CallsS Tryz.prog 38
 #[Value.agg #[Value.slice p n_4 c, Value.slice p_2 n_5 c_2]] w'
 fun (e : Ending) (w' : World) =>
 ∃ (p : Option Addr),
 ∃ (n_7 : Nat),
 ∃ (c : Nat),
 e = Ending.returned (Value.slice p n_7 c) ∧
 S w' ∧
 CallsS Tryz.prog 36 #[Value.slice p_3 n_6 c_3, Value.slice p n_7 c]
 w' fun (e : Ending) (w' : World) =>
 ∃ (x_6 : Bool),
 e = Ending.returned (Value.bool x_6) ∧
 S w' ∧
 ∃ (p : Option Addr),
 ∃ (n_8 : Nat),
 ∃ (c : Nat),
 ∃ (p_4 : Option Addr),
 ∃ (n_9 : Nat),
 ∃ (c_4 : Nat),
 gimp x_6
 (∀ (w' : World),
 S w' →
 AtL w' n_3 0
 [Value.slice p n_8 c, Value.slice p_4 n_9 c_4]) ∧
 bsp x_6
 (CallsS Tryz.prog 39
 #[Value.pointer x, Value.pointer x_3] w'
 fun (e : Ending) (w' : World) =>
 ∃ (p_5 : Option Addr),
 ∃ (n_10 : Nat),
 ∃ (c_5 : Nat),
 e = Ending.returned (Value.slice p_5 n_10 c_5) ∧
 S w' ∧
 CallsS Tryz.prog 40
 #[Value.agg
 #[Value.slice p n_8 c, Value.slice p_4 n_9 c_4],
 Value.string
 (s.extract 0
 (if 200 < (↑s.size : Int) then 200
 else (↑s.size : Int)).toNat)]
 w' fun (e : Ending) (w' : World) =>
 ∃ (p : Option Addr),
 ∃ (n_11 : Nat),
 ∃ (c : Nat),
 e = Ending.returned (Value.slice p n_11 c) ∧
 CallsS Tryz.prog 36
 #[Value.slice p_5 n_10 c_5,
 Value.slice p n_11 c]
 w' fun (e : Ending) (w' : World) =>
 ∃ (x : Bool),
 e = Ending.returned (Value.bool x) ∧
 KeptL [n_3, n] W w' ∧
 R
 (Ending.returned
 (Value.bool (true && x)))
 w')
 (S w' ∧
 KeptL [n_3, n] W w' ∧
 R (Ending.returned (Value.bool false)) w')))
 (KeptL [n_3, n] W W ∧
 bsp x_1
 (CallsS Tryz.prog 15 #[] W fun (e : Ending) (w' : World) =>
 ∃ (x : Bool),
 e = Ending.returned (Value.bool x) ∧
 KeptL [n_3, n] W w' ∧ R (Ending.returned (Value.bool (true && x))) w')
 (KeptL [n_3, n] W W ∧ R (Ending.returned (Value.bool false)) W))
theorem vc_lrgroups (ap : Option Addr) (an : Nat) (ac : Nat) (op : Option Addr) (on : Nat) (oc : Nat) (s : ByteArray) (w : World) (R : Ending → World → Prop) (h : VC_lrgroups ap an ac op on oc s w R) : Calls Tryz.prog 8 ([Value.agg
    #[Value.slice ap an ac, Value.slice op on oc],
  Value.string s] : List Value).toArray w R := by
  have e : execR2 { P := Tryz.prog, loops := [], pur := pur1, tails := [(6, 1)], joins := [], boxes := [] } Tryz.f8.results.toList R (Tryz.f8.body.getD .skip) (initF [Value.agg
    #[Value.slice ap an ac, Value.slice op on oc],
  Value.string
    s] (Tryz.f8.ntmps - ([Value.agg #[Value.slice ap an ac, Value.slice op on oc],
  Value.string s] : List Value).length)) w = VC_lrgroups ap an ac op on oc s w R := by kernel_rfl
  have hb : Tryz.f8.body = some (Tryz.f8.body.getD .skip) := by kernel_rfl
  exact calls_of_exec2' (P := Tryz.prog) (fn := Tryz.f8) (c := Tryz.f8.body.getD .skip) (args := [Value.agg
    #[Value.slice ap an ac, Value.slice op on oc],
  Value.string s]) (w := w) (R := R) pur1_ok Tryz.func8 hb e h

end Go.Proofs.YtkkfnlehlkiejaaGreatDoor

/- Chapter 21: the contracts of the reference's Groups, Selected; RegistryGroups on worlds. No condition but what a reading gives. -/
namespace Go.Proofs.YtkkfnlehlkiejaaGreatDoor
open Go.RowKit Go.Maps

theorem r1same_any (a b : List ByteArray) (p : Option Addr) (c : Nat) (q : Option Addr) (d : Nat) (w : World) (hp : StrP w p a) (hq : StrP w q b) (hl : a.length ≤ 1099511627776) :
    Calls Tryz.prog 36 #[.slice p a.length c, .slice q b.length d] w fun e w' => e = .returned (.bool (decide (a = b))) ∧ K0 w w' := by
  refine vc_r1same p a.length c q b.length d w _ (bsp_intro (fun h => ?_) (fun h => ?_))
  · have : ¬ a = b := fun e => by rw [e] at h; simp at h
    rw [decide_eq_false this]; exact ⟨rfl, .refl _ _⟩
  have hn : a.length = b.length := by simp at h; omega
  refine ⟨fun vs w' => ∃ i : Nat, vs = [.int .i64 (i : Int)] ∧ i ≤ a.length ∧ a.take i = b.take i ∧ K0 w w',
    fun vs _ => (match vs with | .int _ x :: _ => a.length - x.toNat | _ => 0), ⟨0, rfl, by omega, by simp, .refl _ _⟩, ?_⟩
  rintro x w1 ⟨i, hv, hi, ht, k1⟩
  simp only [List.cons.injEq, Value.int.injEq, true_and, and_true] at hv
  subst hv
  refine bsp_intro (fun hlt => ?_) (fun hge => ?_)
  · have hlt : i < a.length := by simp at hlt; omega
    obtain ⟨z, b1, o1, hz, hp1, hc1⟩ := str_get (hp.k0 k1) hlt
    obtain ⟨y, b2, o2, hy, hp2, hc2⟩ := str_get (hq.k0 k1) (k := i) (by omega)
    rw [Int.toNat_natCast]
    refine nn_is hp1 ⟨⟨by omega, by omega⟩, z, fun W hW => (hW.kk rfl : K0 w1 W).cell' hc1 (fun h => h), nn_is hp2 ⟨⟨by omega, by omega⟩, y, fun W hW => (hW.kk rfl : K0 w1 W).cell' hc2 (fun h => h), bsp_intro (fun hne => fun W hW => ?_) (fun heq => fun W hW => ?_)⟩⟩
    · have : ¬ a = b := fun e => by
        rw [e, hy] at hz
        cases hz
        simp at hne
      rw [decide_eq_false this]; exact ⟨rfl, k1.trans (hW.kk rfl)⟩
    · have e : z = y := str_eq (by simpa using heq)
      refine ⟨⟨i + 1, by rw [inc64 (by omega)], hlt, ?_, k1.trans (hW.kk rfl)⟩, by rw [inc64 (by omega)]; simp only [Int.toNat_natCast]; omega⟩
      rw [take_snoc hz, take_snoc hy, ht, e]
  · have hi : i = a.length := by simp at hge; omega
    subst hi
    rw [List.take_length, List.take_of_length_le (by omega)] at ht
    rw [decide_eq_true ht]; exact ⟨rfl, k1⟩

theorem ins_str (out : List ByteArray) (g : ByteArray) (a : Nat) : (out.map Value.string).take (a * 1) ++ [Value.string g] ++ (out.map Value.string).drop (a * 1) = (out.take a ++ g :: out.drop a).map Value.string := by
  rw [Nat.mul_one, ← List.map_take, ← List.map_drop]
  simp
set_option maxRecDepth 100000 in
set_option maxHeartbeats 8000000 in
theorem xgroups_any (A : List Au) (ap : Option Addr) (ac : Nat) (L : List DX) (p : Option Addr) (c : Nat) (w : World) (hR : SR w L p c) (hl : L.length ≤ 1000000) (cur : ByteArray → Bool) (hcur : ∀ (s : ByteArray) (out : List DX), out.Perm (verF L s) → (out.Pairwise fun x y => ¬ cfP y x < 0) → (headC out).isSome = cur s) :
    Calls Tryz.prog 38 #[.agg #[.slice ap A.length ac, .slice p L.length c]] w fun e w' => (∃ (out : List ByteArray) (q : Option Addr) (d : Nat), e = .returned (.slice q out.length d) ∧
      w'.ownsRow w.heap.size 9 1 (.slice q out.length d) out.length (out.map Value.string) ∧ Asc out ∧ out.length ≤ L.length ∧ ∀ g, g ∈ out ↔ (∃ y ∈ L, y.d.g = g) ∧ cur g = true) ∧ K0 w w' := by
  refine vc_xgroups ap A.length ac p L.length c w _ (fun n1 W hW => ?_)
  have kW : K0 w W := hW.kk rfl
  have hw1 := block_lt (hW.cells 0 rfl)
  simp only at hw1
  have hRW := hR.k0 kW
  have one : ∀ (l : List ByteArray) (u : Value), u ∈ l.map Value.string → u.oneCell' = true := fun l u hu => by obtain ⟨z, _, rfl⟩ := List.mem_map.1 hu; rfl
  refine ⟨fun vs w' => ∃ (i : Nat) (out : List ByteArray) (q : Option Addr) (d : Nat), vs = [.int .i64 (i : Int), .slice q out.length d] ∧ i ≤ L.length ∧ Asc out ∧ (∀ g, g ∈ out ↔ (∃ y ∈ L.take i, y.d.g = g) ∧ cur g = true) ∧ out.length ≤ i ∧
      w'.ownsRow W.heap.size 9 1 (.slice q out.length d) out.length (out.map Value.string) ∧ K0 W w',
    fun vs _ => (match vs with | .int _ a :: _ => L.length - a.toNat | _ => 0), ⟨0, [], none, 0, rfl, by omega, .nil, (fun g => by simp), by simp, World.ownsRow_nil _ _ _ _, .refl _ _⟩, ?_⟩
  rintro x p0 m0 d0 w2 ⟨i, out, q, d, hv, hi, hasc, hmem, hoi, ho2, k2⟩ hL2
  simp only [List.cons.injEq, Value.int.injEq, Value.slice.injEq, true_and, and_true] at hv
  obtain ⟨rfl, rfl, rfl, rfl⟩ := hv
  refine bsp_intro (fun hlt => ?_) (fun hge => ?_)
  rotate_left
  · have hi : i = L.length := by simp at hge; omega
    rw [hi, List.take_length] at hmem
    exact ⟨⟨out, p0, d0, rfl, own_base ho2 kW.size, hasc, by omega, hmem⟩, kW.trans k2⟩
  have hlt : i < L.length := by simp at hlt; omega
  obtain ⟨y, b, o, hy, hp, hat⟩ := (hRW.k0 k2).row.get hlt
  have hcg : w2.cell? ⟨b, o + i * 54 + 48, none⟩ = some (.string y.d.g) := hat.cell (j := 48) rfl
  have hmem1 : ∀ g, (∃ z ∈ L.take (i + 1), z.d.g = g) ↔ (∃ z ∈ L.take i, z.d.g = g) ∨ y.d.g = g := fun g => by
    rw [take_snoc hy]
    constructor
    · rintro ⟨z, hz, e⟩
      rcases List.mem_append.1 hz with hz | hz
      · exact .inl ⟨z, hz, e⟩
      · simp at hz; subst hz; exact .inr e
    · rintro (⟨z, hz, e⟩ | e)
      · exact ⟨z, List.mem_append_left _ hz, e⟩
      · exact ⟨y, by simp, e⟩
  refine nn_is hp ⟨⟨by omega, by omega⟩, y.d.g, by rw [Int.toNat_natCast]; exact hcg, ?_⟩
  refine ⟨(xcur_any A ap ac L p c y.d.g w2 (hRW.k0 k2) hl).mono fun e w2' ⟨⟨vo, hvp, hvs, he⟩, kc⟩ => ⟨_, _, _, _, _, _, _, _, _, _, _, he, .of_k0 kc, fun n3 => ?_⟩⟩
  have hcv := hcur y.d.g vo hvp hvs
  refine bsp_intro (fun h => fun W3 hW3 => ?_) (fun h => fun W3 hW3 => ?_)
  · have hcf : cur y.d.g = false := by rw [← hcv]; simpa using h
    have k3 := kc.trans (hW3.kk rfl : K0 w2' W3)
    refine ⟨⟨i + 1, out, p0, d0, by rw [inc64 (by omega)], by omega, hasc, fun g => ?_, by omega, owns_kp ho2 k3 (fun _ _ h => h), k2.trans k3⟩, by rw [inc64 (by omega)]; simp only [Int.toNat_natCast]; omega⟩
    rw [hmem1, hmem]
    constructor
    · rintro ⟨h1, h2⟩; exact ⟨.inl h1, h2⟩
    · rintro ⟨h1 | h1, h2⟩
      · exact ⟨h1, h2⟩
      · subst h1; rw [hcf] at h2; cases h2
  have hct : cur y.d.g = true := by rw [← hcv]; simpa using h
  have kk3 := kc.trans (hW3.kk rfl : K0 w2' W3)
  have k02 := k2.trans kk3
  have ho2 := owns_kp ho2 kk3 (fun _ _ h => h)
  have hle := own_le ho2
  refine ⟨fun vs w' => ∃ a : Nat, vs = [.int .i64 (a : Int)] ∧ a ≤ out.length ∧ (∀ (j : Nat) (z : ByteArray), a ≤ j → out[j]? = some z → cbs y.d.g z < 0) ∧ K0 W3 w',
    fun vs _ => (match vs with | .int _ a :: _ => a.toNat | _ => 0), ⟨out.length, rfl, Nat.le_refl _, (fun j z h1 h2 => by have := (List.getElem?_eq_some_iff.1 h2).1; omega), .refl _ _⟩, ?_⟩
  rintro x2 w3 ⟨a, hv, ha, hhi, k3⟩ hL3
  simp only [List.cons.injEq, Value.int.injEq, true_and, and_true] at hv
  subst hv
  have ho3 := owns_kp ho2 k3 (fun _ _ h => h)
  have k03 := k02.trans k3
  have hln1 := block_lt (hL3.cells 0 rfl)
  have hln3 := block_lt (hL3.cells 1 rfl)
  simp only at hln1 hln3
  simp only [Int.toNat_natCast, Nat.zero_add]
  rcases Nat.eq_zero_or_pos a with h0 | h0
  have hlo : ∀ z, 0 < a → out[a - 1]? = some z → cbs z y.d.g < 0 := fun z h => by omega
  rw [show decide ((a : Int) > 0) = false by rw [h0]; rfl]
  refine nn_off (fun b8 o8 => ⟨gimp_intro (fun h => by cases h), ⟨#[]⟩, gimp_intro (fun h => by cases h), bsp_intro (fun h => by cases h) (fun _ => nn_off (fun b9 o9 => ⟨gimp_intro (fun h => by cases h), ⟨#[]⟩, gimp_intro (fun h => by cases h), bsp_intro (fun h => by cases h) (fun _ => ?_)⟩))⟩)
  clear h0 b8 o8 b9 o9 h
  rotate_left
  have ha1 : a - 1 < out.length := by omega
  obtain ⟨z, hz⟩ : ∃ z, out[a - 1]? = some z := ⟨_, List.getElem?_eq_getElem ha1⟩
  have eA : IntKind.i64.wrap ((a : Int) - 1) = ((a - 1 : Nat) : Int) := by rw [wr64 (by omega) (by omega)]; omega
  obtain ⟨g2, o2, hg2, hcz⟩ := strP_own ho3 (a - 1) z hz
  rw [eA]
  refine nn_is hg2 ⟨gimp_intro fun _ => ⟨by omega, by omega⟩, z, gimp_intro fun _ => by rw [Int.toNat_natCast]; exact hcz, bsp_intro (fun hc => ?_) (fun hc => nn_is hg2 ⟨gimp_intro fun _ => ⟨by omega, by omega⟩, z, gimp_intro fun _ => by rw [Int.toNat_natCast]; exact hcz, bsp_intro (fun hc2 => ?_) (fun hc2 => ?_)⟩)⟩
  · rw [bl_cbs, str_beq] at hc
    have hc : ¬ cbs z y.d.g < 0 ∧ ¬ z = y.d.g := by simpa [h0] using hc
    have hlt2 : cbs y.d.g z < 0 := by
      have h1 := cbs_ord.anti z y.d.g
      have h2 : cbs z y.d.g ≠ 0 := fun e => hc.2 (cbs_zero e)
      omega
    refine ⟨⟨a - 1, rfl, by omega, fun j u hj hu => ?_, k3⟩, by simp only [Int.toNat_natCast]; omega⟩
    by_cases e : j = a - 1
    · subst e; rw [hz] at hu; cases hu; exact hlt2
    · exact hhi j u (by omega) hu
  · rw [str_beq] at hc2
    have hzy : z = y.d.g := by simpa [h0] using hc2
    refine ⟨⟨i + 1, out, p0, d0, by rw [inc64 (by omega)], by omega, hasc, fun g => ?_, by omega, ho3, k03⟩, by rw [inc64 (by omega)]; simp only [Int.toNat_natCast]; omega⟩
    have hzo := List.mem_of_getElem? hz
    rw [hmem1]
    constructor
    · intro h1
      have := (hmem g).1 h1
      exact ⟨.inl this.1, this.2⟩
    · rintro ⟨h1 | h1, h2⟩
      · exact (hmem g).2 ⟨h1, h2⟩
      · rw [← h1, ← hzy]; exact hzo
  rw [bl_cbs, str_beq] at hc
  rw [str_beq] at hc2
  have hlo : ∀ u, 0 < a → out[a - 1]? = some u → cbs u y.d.g < 0 := fun u _ hu => by
    rw [hz] at hu
    cases hu
    have h1 : ¬ z = y.d.g := by simpa [h0] using hc2
    have h3 : 0 ≤ cbs z y.d.g → z = y.d.g := by simpa [h0] using hc
    have h2 : cbs z y.d.g < 0 ∨ z = y.d.g := by
      rcases Int.lt_or_le (cbs z y.d.g) 0 with h4 | h4
      · exact .inl h4
      · exact .inr (h3 h4)
    rcases h2 with h2 | h2
    · exact h2
    · exact absurd h2 h1
  clear h0 hz hcz hg2 hc hc2 h eA ha1
  rotate_left
  all_goals
    intro n5
    refine ⟨⟨by omega, by omega⟩, fun W4 hW4 => ?_⟩
    have k4 : K0 w3 W4 := hW4.kk rfl
    have g4 : w3.heap.size ≤ n5 := hW4.fresh 1 rfl rfl
    have ho4 := owns_kp ho3 k4 (fun _ _ h => h)
    have hlen := ho4.1
    refine ⟨w3.heap.size, [], (out.map Value.string).take (a * 1), own_none g4 (hW4.cells 1 rfl), by rw [List.length_take, hlen]; exact Nat.min_eq_left (Nat.mul_le_mul_right _ ha), src_take ho4 (one out) _, by omega, by omega, k4.size, fun p5 c5 w5 ho5 hg5 _ => ?_⟩
    rw [List.nil_append] at ho5
    have k5 : K0 w3 w5 := k4.fresh (kp_grown hg5) (fun j hj e => by have := own_n e; omega)
    have hoo : ∀ k, (Value.slice p0 out.length d0).ownBlock = some k → k < w3.heap.size := fun k e => own_lt ho3 e
    have ho5' := owns_kp ho4 (kp_grown hg5) (fun k hk e => by have := own_n e; have := hoo k hk; omega)
    refine ⟨⟨(kp_grown hg5).size, fun z hz hlt => (kp_grown hg5).block z hlt (fun e => by have := own_n e; simp at hz; omega)⟩, fun n6 W6 hW6 => ?_⟩
    have k6 : K0 w5 W6 := hW6.kk rfl
    have ho6 := owns_kp ho5 k6 (fun _ _ h => h)
    refine ⟨w3.heap.size, _, ho6, by omega, by omega, (k5.trans k6).size, fun p7 c7 w7 ho7 hg7 _ => ?_⟩
    have ho7 : w7.ownsRow w3.heap.size 9 1 (.slice p7 (a + 1) c7) (a + 1) ((out.map Value.string).take (a * 1) ++ [Value.string y.d.g]) := ho7
    have k7 : K0 w3 w7 := (k5.trans k6).fresh (kp_grown hg7) (fun j hj e => by have := own_ge ho6 e; omega)
    have ho7' := owns_kp (owns_kp ho5' k6 (fun _ _ h => h)) (kp_grown hg7) (fun k hk e => by have := own_ge ho6 e; have := hoo k hk; omega)
    refine ⟨⟨(kp_grown hg7).size, fun z hz hlt => (kp_grown hg7).block z hlt (fun e => by have := own_ge ho6 e; simp at hz; omega)⟩, ⟨by omega, by omega⟩, w3.heap.size, _, (out.map Value.string).drop (a * 1), ho7, by rw [List.length_drop, hlen, Nat.sub_mul], src_drop ho7' (one out) ha, by omega, by omega, k7.size, fun p8 c8 w8 ho8 hg8 _ => ?_⟩
    have k8 : K0 w3 w8 := k7.fresh (kp_grown hg8) (fun j hj e => by have := own_ge ho7 e; omega)
    have em : (out.take a ++ y.d.g :: out.drop a).length = a + 1 + (out.length - a) := by rw [List.length_append, List.length_take, List.length_cons, List.length_drop]; omega
    rw [ins_str, ← em] at ho8
    rw [← em]
    refine ⟨⟨(kp_grown hg8).size, fun z hz hlt => (kp_grown hg8).block z hlt (fun e => by have := own_ge ho7 e; simp at hz; omega)⟩, ⟨i + 1, out.take a ++ y.d.g :: out.drop a, p8, c8, by rw [inc64 (by omega)], hlt, asc_ins hasc hhi hlo ha, fun g => ?_, by omega, own_base ho8 k03.size, k03.trans k8⟩, by rw [inc64 (by omega)]; simp only [Int.toNat_natCast]; omega⟩
    have hin : g ∈ out.take a ++ y.d.g :: out.drop a ↔ g ∈ out ∨ y.d.g = g := by
      rw [List.mem_append, List.mem_cons]
      constructor
      · rintro (h1 | h1 | h1)
        · exact .inl (List.mem_of_mem_take h1)
        · exact .inr h1.symm
        · exact .inl (List.mem_of_mem_drop h1)
      · rintro (h1 | h1)
        · rw [← List.take_append_drop a out, List.mem_append] at h1
          rcases h1 with h1 | h1
          · exact .inl h1
          · exact .inr (.inr h1)
        · exact .inr (.inl h1.symm)
    rw [hin, hmem1, hmem]
    constructor
    · rintro (⟨h1, h2⟩ | h1)
      · exact ⟨.inl h1, h2⟩
      · subst h1; exact ⟨.inr rfl, hct⟩
    · rintro ⟨h1 | h1, h2⟩
      · exact .inl ⟨h1, h2⟩
      · exact .inr h1

end Go.Proofs.YtkkfnlehlkiejaaGreatDoor

/- Chapter 21: the contract of the reference's Selected; RegistryGroups on worlds. No condition but what a reading gives. -/
namespace Go.Proofs.YtkkfnlehlkiejaaGreatDoor
open Go.RowKit Go.Maps

/-- What a list accepts. -/
def selL (s : ByteArray) (G : List ByteArray) : List ByteArray := match listR s with
  | .inl es => G.filter fun g => verd es g == 1
  | .inr _ => []
set_option maxRecDepth 100000 in
set_option maxHeartbeats 8000000 in
theorem xselected_any (A : List Au) (ap : Option Addr) (ac : Nat) (L : List DX) (p : Option Addr) (c : Nat) (s : ByteArray) (w : World) (hR : SR w L p c) (hl : L.length ≤ 1000000) (hs : s.size ≤ 1073741824) (h80 : ∀ y ∈ L, y.d.g.size ≤ 80) (cur : ByteArray → Bool) (hcur : ∀ (s : ByteArray) (out : List DX), out.Perm (verF L s) → (out.Pairwise fun x y => ¬ cfP y x < 0) → (headC out).isSome = cur s) :
    Calls Tryz.prog 40 #[.agg #[.slice ap A.length ac, .slice p L.length c], .string s] w fun e w' => (∃ (G : List ByteArray) (q : Option Addr) (d : Nat), e = .returned (.slice q (selL s G).length d) ∧ StrP w' q (selL s G) ∧ Asc G ∧ G.length ≤ L.length ∧ ∀ g, g ∈ G ↔ (∃ y ∈ L, y.d.g = g) ∧ cur g = true) ∧ K0 w w' := by
  refine vc_xselected ap A.length ac p L.length c s w _ (fun n1 W hW => ?_)
  have kW : K0 w W := hW.kk rfl
  refine ⟨(rparseList_any s W hs).mono fun e w1 ⟨k1, hQ⟩ => ?_⟩
  have k01 := kW.trans k1
  have hG : ∀ w1, K0 w w1 → Calls Tryz.prog 38 #[.agg #[.slice ap A.length ac, .slice p L.length c]] w1 fun e w' => (∃ (out : List ByteArray) (q : Option Addr) (d : Nat), e = .returned (.slice q out.length d) ∧
      w'.ownsRow w1.heap.size 9 1 (.slice q out.length d) out.length (out.map Value.string) ∧ Asc out ∧ out.length ≤ L.length ∧ ∀ g, g ∈ out ↔ (∃ y ∈ L, y.d.g = g) ∧ cur g = true) ∧ K0 w1 w' := fun w1 k => xgroups_any A ap ac L p c w1 (hR.k0 k) hl cur hcur
  cases hls : listR s with
  | inr oe =>
    obtain ⟨o, er⟩ := oe
    rw [hls] at hQ
    have hne := listR_err hls
    refine ⟨_, _, _, _, _, hQ, .of_k0 k1, ⟨(hG w1 k01).mono fun e w2 ⟨⟨G, q, d, he, ho, h1, h2, h3⟩, k2⟩ => ⟨_, _, _, he, .of_k0 k2, fun vs w' => vs = [.int .i64 0, .slice none 0 0] ∧ K0 w w', fun _ _ => 0, ⟨rfl, k01.trans k2⟩, ?_⟩⟩⟩
    rintro x q0 n0 d0 w3 ⟨hv, k3⟩ hL3
    simp only [List.cons.injEq, Value.int.injEq, Value.slice.injEq, true_and, and_true] at hv
    obtain ⟨rfl, rfl, rfl, rfl⟩ := hv
    refine bsp_intro (fun h => by simp [hne] at h) (fun _ => ?_)
    have hsel : selL s G = [] := by unfold selL; rw [hls]
    exact ⟨⟨G, none, 0, by rw [hsel]; rfl, by rw [hsel]; exact fun j z hj => by simp at hj, h1, h2, h3⟩, k3⟩
  | inl es =>
    rw [hls] at hQ
    obtain ⟨p', n', c', Lr, he, hRL, hrel⟩ := hQ
    have hok := listR_ok hls
    obtain ⟨l64, l80⟩ := relEs_len hrel hok.1 hok.2
    refine ⟨_, _, _, _, _, he, .of_k0 k1, ⟨(hG w1 k01).mono fun e w2 ⟨⟨G, q, d, he, ho, h1, h2, h3⟩, k2⟩ => ⟨_, _, _, he, .of_k0 k2, ?_⟩⟩⟩
    have hGr := strP_own ho
    have hsel : selL s G = G.filter fun g => verd es g == 1 := by unfold selL; rw [hls]
    refine ⟨fun vs w' => ∃ (k : Nat) (acc : List ByteArray) (q : Option Addr) (d : Nat), vs = [.int .i64 (k : Int), .slice q acc.length d] ∧ k ≤ G.length ∧ acc.length ≤ k ∧ acc = (G.take k).filter (fun g => verd es g == 1) ∧
        w'.ownsRow w2.heap.size 9 1 (.slice q acc.length d) acc.length (acc.map Value.string) ∧ K0 w2 w',
      fun vs _ => (match vs with | .int _ a :: _ => G.length - a.toNat | _ => 0), ⟨0, [], none, 0, rfl, by omega, by simp, rfl, World.ownsRow_nil _ _ _ _, .refl _ _⟩, ?_⟩
    rintro x q0 n0 d0 w3 ⟨k, acc, q', d', hvs, hk, hak, hacc, ho3, k3⟩ hL3
    simp only [List.cons.injEq, Value.int.injEq, Value.slice.injEq, true_and, and_true] at hvs
    obtain ⟨rfl, rfl, rfl, rfl⟩ := hvs
    refine bsp_intro (fun hlt => ?_) (fun hge => ?_)
    rotate_left
    · have hk2 : k = G.length := by simp at hge; omega
      rw [hk2, List.take_length] at hacc
      exact ⟨⟨G, q0, d0, by rw [hsel, ← hacc], by rw [hsel, ← hacc]; exact strP_own ho3, h1, h2, h3⟩, (k01.trans k2).trans k3⟩
    have hlt : k < G.length := by simp at hlt; omega
    obtain ⟨g, bb, oo, hg, hpb, hcell⟩ := (hGr.k0 k3).get hlt
    have hg80 : g.size ≤ 80 := by
      obtain ⟨⟨y, hy, e⟩, _⟩ := (h3 g).1 (List.mem_of_getElem? hg)
      rw [← e]; exact h80 y hy
    have hn := hL3.cells 0 rfl
    rw [Int.toNat_natCast]
    refine nn_is hpb ⟨⟨by omega, by omega⟩, g, hcell, ⟨(rverdict_any (hRL.kp (k2.trans k3)) g (by omega) l64 l80).mono fun e w4 ⟨he, k4⟩ => ⟨_, he, .of_k0 k4, bsp_intro (fun hc => ?_) (fun hc => ?_)⟩⟩⟩
    · have hc : (verd es g == 1) = true := by rw [rel_verd hrel]; simpa using hc
      refine nn_is hpb ⟨⟨by omega, by omega⟩, g, k4.cell' hcell (fun h => h), fun n4 W4 hW4 => ?_⟩
      have k5 : K0 w4 W4 := hW4.kk rfl
      have k35 := k4.trans k5
      have ho4 := owns_kp ho3 k35 (fun _ _ h => h)
      refine ⟨w2.heap.size, _, ho4, by omega, by omega, (k3.trans k35).size, fun p5 c5 w5 ho5 hg5 _ => ?_⟩
      have kg := kp_grown hg5
      refine ⟨.of_kp kg (fun z hz e => ?_), ⟨k + 1, acc ++ [g], p5, c5, ?_, hlt, ?_, ?_, ?_, (k3.trans k35).fresh kg (fun j hj e => by have := own_ge ho4 e; omega)⟩, by rw [inc64 (by omega)]; simp only [Int.toNat_natCast]; omega⟩
      · simp only [List.mem_cons, List.not_mem_nil, or_false] at hz
        subst hz
        exact own_not ho4 (hW4.cells 0 rfl) rfl e
      · rw [inc64 (by omega), List.length_append]; rfl
      · rw [List.length_append]; simp only [List.length_cons, List.length_nil]; omega
      · rw [take_snoc hg, List.filter_append, ← hacc, List.filter_cons, if_pos hc]; rfl
      · rw [List.length_append, List.map_append]; exact ho5
    · have hc : (verd es g == 1) = false := by rw [rel_verd hrel]; simpa using hc
      refine ⟨⟨k + 1, acc, q0, d0, by rw [inc64 (by omega)], hlt, by omega, ?_, owns_kp ho3 k4 (fun _ _ h => h), k3.trans k4⟩, by rw [inc64 (by omega)]; simp only [Int.toNat_natCast]; omega⟩
      rw [take_snoc hg, List.filter_append, ← hacc, List.filter_cons, if_neg (by rw [hc]; decide)]; simp

/-! ### The law -/
section
variable {l : List (List Int × DX)} {ds : List DX}
/-- Whether a group exists, of a list of all definitions in order. -/
def curL (L : List Df) (g : ByteArray) : Bool := (headD (L.filter fun d => decide (d.g = g))).isSome
theorem DL.perm (h : DL l ds) {L : List Df} (hp : L.Perm (l.map fun q => q.2.d)) : L.Perm (ds.map fun y => y.d) := by rw [h.eq]; exact hp
theorem DL.cur (h : DL l ds) (hok : ∀ y ∈ ds, y.d.OK) {L : List Df} (hp : L.Perm (l.map fun q => q.2.d)) (hs : L.Pairwise fun a b => ¬ cfd b a < 0) (s : ByteArray) (out : List DX) (ho : out.Perm (verF ds s)) (hos : out.Pairwise fun x y => ¬ cfP y x < 0) : (headC out).isSome = curL L s := by
  have hV : VerL l s ((L.filter fun d => decide (d.g = s)).map fun d => (⟨d, none, 0⟩ : DX)) := by
    refine ⟨?_, ?_⟩
    · rw [h.acc (fun d => decide (d.g = s))]
      have e1 : ((L.filter fun d => decide (d.g = s)).map fun d => (⟨d, none, 0⟩ : DX)).map (·.d) = L.filter fun d => decide (d.g = s) := by rw [List.map_map]; exact List.map_id _
      have e2 : (ds.filter fun y => decide (y.d.g = s)).map (fun y => y.d) = (ds.map fun y => y.d).filter fun d => decide (d.g = s) := by rw [List.filter_map]; rfl
      rw [e1, e2]
      exact (h.perm hp).filter _
    · rw [List.pairwise_map]
      exact (hs.sublist (List.filter_sublist)).imp fun {a b} h => h
  have := h.vers hok hV ho hos
  rw [headC_is, ← this]
  unfold curL
  rw [List.map_map]
  congr 2
  exact List.map_id _
/-- What the program lists is what the reference lists. -/
theorem DL.groups (h : DL l ds) (hne : ∀ y ∈ ds, y.d.g ≠ ⟨#[]⟩) {L : List Df} (hp : L.Perm (l.map fun q => q.2.d)) (hs : L.Pairwise fun a b => ¬ cfd b a < 0) {G : List ByteArray} (hA : Asc G) (hG : ∀ g, g ∈ G ↔ (∃ y ∈ ds, y.d.g = g) ∧ curL L g = true) : grpP L ⟨#[]⟩ = G := by
  have hs' : L.Pairwise fun a b => cbs a.g b.g ≤ 0 := hs.imp fun {a b} h => cfd_g h
  have hn : ∀ d ∈ L, cbs ⟨#[]⟩ d.g ≤ 0 := fun d _ => cbs_nil d.g
  refine asc_uniq (asc_grpP L _ hs' hn).1 hA fun g => ?_
  rw [mem_grpP L _ hs' hn, hG]
  constructor
  · rintro ⟨_, h2⟩
    refine ⟨?_, h2⟩
    cases hf : L.filter (fun d => decide (d.g = g)) with
    | nil => rw [hf] at h2; cases h2
    | cons x t =>
      have hx : x ∈ L.filter (fun d => decide (d.g = g)) := by rw [hf]; simp
      have hxg : x.g = g := by simpa using (List.mem_filter.1 hx).2
      obtain ⟨y, hy, e⟩ := List.mem_map.1 ((h.perm hp).subset (List.mem_filter.1 hx).1)
      exact ⟨y, hy, by rw [e]; exact hxg⟩
  · rintro ⟨⟨y, hy, e⟩, h2⟩
    exact ⟨by rw [← e]; exact hne y hy, h2⟩
theorem compB_nil : compB ⟨#[]⟩ = false := by decide +kernel
theorem gn_nonempty {g : ByteArray} (h : gnE g = 0) : g ≠ ⟨#[]⟩ := fun e => by
  subst e
  have : gnE ⟨#[]⟩ ≠ 0 := by decide +kernel
  exact this h
theorem DL.small (h : DL l ds) (h80 : ∀ y ∈ ds, y.d.g.size ≤ 80) {L : List Df} (hp : L.Perm (l.map fun q => q.2.d)) : (∀ g ∈ grpP L ⟨#[]⟩, g.size ≤ 80) ∧ (grpP L ⟨#[]⟩).length ≤ ds.length := by
  have key : ∀ (L : List Df) (last : ByteArray), (∀ d ∈ L, d.g.size ≤ 80) → (∀ g ∈ grpP L last, g.size ≤ 80) ∧ (grpP L last).length ≤ L.length := by
    intro L
    induction L with
    | nil => intro last _; exact ⟨(fun g h => by cases h), Nat.le_refl _⟩
    | cons d r ih =>
      intro last hd
      obtain ⟨i1, i2⟩ := ih d.g fun x hx => hd x (List.mem_cons_of_mem _ hx)
      rw [grpP]
      split
      · refine ⟨fun g hg => ?_, by simp only [List.length_cons]; omega⟩
        rcases List.mem_cons.1 hg with rfl | hg
        · exact hd d List.mem_cons_self
        · exact i1 g hg
      · exact ⟨i1, by rw [List.length_cons]; omega⟩
  have hLd := h.perm hp
  obtain ⟨k1, k2⟩ := key L ⟨#[]⟩ fun d hd => by
    obtain ⟨y, hy, e⟩ := List.mem_map.1 (hLd.subset hd)
    rw [← e]; exact h80 y hy
  exact ⟨k1, by have := hLd.length_eq; rw [List.length_map] at this; omega⟩
end
set_option maxRecDepth 100000 in
set_option maxHeartbeats 8000000 in
theorem lrgroups_any (As : List Au) (ap : Option Addr) (ac : Nat) (Os : List OpY) (op : Option Addr) (oc : Nat) (s : ByteArray) (w : World) (hA : RowA atC 17 w ap As) (hB : ∀ x ∈ As, BY x.au) (hO : RowA opC 55 w op Os) (hR : ∀ x ∈ Os, DfR w x.x) (hG : GW w) :
    Calls Tryz.prog 8 #[.agg #[.slice ap As.length ac, .slice op Os.length oc], .string s] w fun e w' => e = .returned (.bool true) ∧ K0 w w' := by
  refine vc_lrgroups ap As.length ac op Os.length oc s w _ (fun n W hW => ?_)
  have kW : K0 w W := hW.kk rfl
  have hG' : ∀ {wa : World}, K0 w wa → GW wa := fun k => hG.kp k (fun h => h)
  refine ⟨(lplay_any As ap ac Os op oc W (hA.k0 kW) hB (hO.k0 kW) (fun x hx => (hR x hx).k0 kW) (hG' kW)).mono fun e w1 hQ => ?_⟩
  rcases hQ with ⟨p, k, c, q, m, d, he, k1⟩ | ⟨b, mb, rp, rc, l, ds, dp, dc, he, hI, hOK, h30⟩
  · refine ⟨_, _, _, _, _, _, _, _, he, .of_k0 k1, fun n3 W2 hW2 => bsp_intro (fun h => by simp at h) (fun _ => ?_)⟩
    have k02 := (kW.trans k1).trans (hW2.kk rfl : K0 w1 W2)
    exact ⟨.refl _ _, bsp_intro (fun _ => ⟨(known_any W2 (hG' k02)).mono fun e w3 ⟨he, k3⟩ => ⟨_, he, .of_k0 k3, rfl, k02.trans k3⟩⟩) (fun h => by cases h)⟩
  refine ⟨_, _, _, _, _, _, _, _, he, .of_k0 hI.k, fun n3 W2 hW2 => bsp_intro (fun _ => ?_) (fun h => by simp at h)⟩
  have k2 : K0 w1 W2 := hW2.kk rfl
  have k02 := (kW.trans hI.k).trans k2
  have hl := hI.dl.len
  have hdok : ∀ y ∈ ds, y.d.OK := fun y hy => (hI.sr.ok y hy).2.2
  have hgn : ∀ y ∈ ds, gnE y.d.g = 0 := fun y hy => (dchk_sz (hI.sr.ok y hy).1).1
  have h80 : ∀ y ∈ ds, y.d.g.size ≤ 80 := fun y hy => gnE_sz (hgn y hy)
  have hnn : ∀ y ∈ ds, y.d.g ≠ ⟨#[]⟩ := fun y hy => gn_nonempty (hgn y hy)
  have hsm : ∀ (L : List Df), L.Perm (l.map fun q => q.2.d) → (∀ g ∈ grpP L ⟨#[]⟩, g.size ≤ 80) ∧ (grpP L ⟨#[]⟩).length ≤ 1000000 := fun L hp => by
    obtain ⟨h1, h2⟩ := hI.dl.small h80 hp
    exact ⟨h1, by omega⟩
  refine ⟨(known_any W2 (hG' k02)).mono fun e w3 ⟨he, k3⟩ => ⟨_, he, .of_k0 k3, bsp_intro (fun h => by simp at h) (fun _ => ⟨⟨by split <;> omega, by split <;> omega⟩, ?_⟩)⟩⟩
  have hsz : (s.extract 0 (if (200 : Int) < (s.size : Int) then (200 : Int) else (s.size : Int)).toNat).size ≤ 200 := by rw [ByteArray.size_extract]; split <;> omega
  generalize s.extract 0 _ = t at *
  have k03 := k02.trans k3
  have hI3 := hI.k0 (k2.trans k3)
  refine ⟨(parseList_any t w3 (by omega) (hG' k03)).mono fun e w4 ⟨k4, hQ⟩ => ?_⟩
  have key : ∃ (lp : Option Addr) (o er : Int) (v : ByteArray → Int), e = .returned (.tuple #[.pointer lp, .int .i64 o, .int .i64 er]) ∧ (∀ (g : ByteArray) (wx : World), g.size ≤ 80 → K0 w4 wx → Calls Tryz.prog 46 #[.pointer lp, .string g] wx fun e w' => e = .returned (.int .i64 (v g)) ∧ K0 wx w') ∧ ∀ G : List ByteArray, (G.filter fun g => v g == 1) = selL t G := by
    cases hls : listR t with
    | inr oe =>
      obtain ⟨o, er⟩ := oe
      rw [hls] at hQ
      exact ⟨none, o, er, fun _ => 0, hQ, fun g wx _ _ => lverdn_any g wx, fun G => by unfold selL; rw [hls]; exact List.filter_eq_nil_iff.2 (fun _ _ => (show ¬ ((0 : Int) == 1) = true by decide))⟩
    | inl es =>
      rw [hls] at hQ
      obtain ⟨lb, he, hL⟩ := hQ
      have hok := listR_ok hls
      exact ⟨_, _, _, fun g => verd es g, he, fun g wx hg k => verdict_any (hL.kp k (fun _ _ _ h => h)) hok.1 hok.2 g (by omega), fun G => by unfold selL; rw [hls]⟩
  obtain ⟨lp, o, er, v, he, hv, hvs⟩ := key
  refine ⟨_, _, _, he, .of_k0 k4, fun W5 hW5 => ?_⟩
  have k5 : K0 w4 W5 := hW5.kk rfl
  have hI5 := hI3.k0 (k4.trans k5)
  have hb := hW5.cells 0 rfl
  refine ⟨fun wx => K0 W5 wx, .refl _ _, rp, (autL As).length, rc, dp, ds.length, dc, fun wx k => AtL_block (k.blk hb (fun h => h)) rfl, ?_⟩
  refine ⟨(rgroups_any hI5.reg (by omega)).mono fun e w6 ⟨⟨L1, p1, c1, hp1, hs1, he, ho1⟩, k6⟩ => ⟨_, _, _, he, k6, ?_⟩⟩
  have hI6 := hI5.k0 k6
  refine ⟨(xgroups_any (autL As) rp rc ds dp dc w6 hI6.sr (by omega) (curL L1) (hI.dl.cur hdok hp1 hs1)).mono fun e w7 ⟨⟨G1, q1, d1, he, ho2, hA2, hl2, hm2⟩, k7⟩ => ⟨_, _, _, he, k6.trans k7, ?_⟩⟩
  have k57 := k6.trans k7
  have hE1 := hI.dl.groups hnn hp1 hs1 hA2 hm2
  have hr1 := strP_own (owns_kp ho1 k7 (fun _ _ h => h))
  refine ⟨(r1same_any (grpP L1 ⟨#[]⟩) G1 p1 c1 q1 d1 w7 hr1 (strP_own ho2) (by have := (hsm L1 hp1).2; omega)).mono fun e w8 ⟨he, k8⟩ => ⟨_, he, k57.trans k8, rp, (autL As).length, rc, dp, ds.length, dc, gimp_intro fun _ wx k => AtL_block (k.blk hb (fun h => h)) rfl, bsp_intro (fun _ => ?_) (fun h => by rw [decide_eq_true hE1] at h; cases h)⟩⟩
  have k58 := k57.trans k8
  have hI8 := hI5.k0 k58
  refine ⟨(rselect_any hI8.reg (by omega) lp v (fun g wx hg k => hv g wx hg ((k5.trans k58).trans k)) (fun L hp => (hsm L hp).1) (fun L hp => (hsm L hp).2)).mono fun e w9 ⟨⟨L2, p2, c2, hp2, hs2, he, hr2⟩, k9⟩ => ⟨_, _, _, he, k58.trans k9, ?_⟩⟩
  have k59 := k58.trans k9
  have hI9 := hI8.k0 k9
  refine ⟨(xselected_any (autL As) rp rc ds dp dc t w9 hI9.sr (by omega) (by omega) h80 (curL L2) (hI.dl.cur hdok hp2 hs2)).mono fun e w10 ⟨⟨G2, q2, d2, he, hr3, hA3, hl3, hm3⟩, k10⟩ => ⟨_, _, _, he, ?_⟩⟩
  have hE2 := hI.dl.groups hnn hp2 hs2 hA3 hm3
  have k510 := k59.trans k10
  have hfl : ((grpP L2 ⟨#[]⟩).filter fun g => v g == 1).length ≤ 1000000 := Nat.le_trans (List.length_filter_le _ _) (hsm L2 hp2).2
  refine ⟨(r1same_any _ (selL t G2) p2 c2 q2 d2 w10 (hr2.k0 k10) hr3 (by omega)).mono fun e w11 ⟨he, k11⟩ => ⟨_, he, .of_k0 (k510.trans k11), ?_, (((k03.trans k4).trans k5).trans k510).trans k11⟩⟩
  rw [decide_eq_true (show ((grpP L2 ⟨#[]⟩).filter fun g => v g == 1) = selL t G2 by rw [hvs, hE2])]
  rfl

end Go.Proofs.YtkkfnlehlkiejaaGreatDoor
