/- The formulas of functions by the symbolic evaluator, and that each gives the call's contract. Written by a program (gen.py). No condition. -/
import Derived.Test.YtkkfnlehlkiejaaGreatDoorProg
import Derived.Test.YtkkfnlehlkiejaaGreatDoorZ02
import Derived.Test.YtkkfnlehlkiejaaGreatDoorZ03
import Derived.Test.YtkkfnlehlkiejaaGreatDoorZ05
import Derived.KernelRfl
import Derived.Test.YtkkfnlehlkiejaaGreatDoorZ06
import Derived.Shelf.SlGeneric
import Derived.Shelf.SlSortCmp.NoneTotal
import Derived.Ground.SlsfProg
import Derived.Test.YtkkfnlehlkiejaaGreatDoorZ04
import Derived.Lib.BytesEntry
import Derived.Sort.Grow
namespace Go.Proofs.YtkkfnlehlkiejaaGreatDoor
set_option maxRecDepth 100000
set_option linter.unusedVariables false

def VC_acont (p : Option Addr) (n : Nat) (c : Nat) (a : Nat → Int) (w : World) (R : Ending → World → Prop) : Prop :=
 ∀ (n_1 : Nat) (W : World),
 Loc w.heap.size
 [Blk.mk n_1 53
 (arrI IntKind.u8 a 16 0)
 2]
 w W →
 CallsS Tryz.prog 76
 #[Value.slice p n c,
 Value.agg
 (arrI IntKind.u8 a 16 0).toArray]
 W fun (e : Ending) (w' : World) =>
 ∃ (x : Int),
 e = Ending.returned (Value.int IntKind.i64 x) ∧
 KeptL [n_1] W w' ∧ R (Ending.returned (Value.bool (decide (x ≥ 0)))) w'
theorem vc_acont (p : Option Addr) (n : Nat) (c : Nat) (a : Nat → Int) (w : World) (R : Ending → World → Prop) (h : VC_acont p n c a w R) : Calls Tryz.prog 52 ([Value.slice
    p n c,
  Value.agg (arrI IntKind.u8 a 16 0).toArray] : List Value).toArray w R := by
  have e : execR2 { P := Tryz.prog, loops := [], pur := pur1, tails := [], joins := [], boxes := [] } Tryz.f52.results.toList R (Tryz.f52.body.getD .skip) (initF [Value.slice
    p n c,
  Value.agg
    (arrI IntKind.u8 a 16
        0).toArray] (Tryz.f52.ntmps - ([Value.slice p n c,
  Value.agg (arrI IntKind.u8 a 16 0).toArray] : List Value).length)) w = VC_acont p n c a w R := by kernel_rfl
  have hb : Tryz.f52.body = some (Tryz.f52.body.getD .skip) := by kernel_rfl
  exact calls_of_exec2' (P := Tryz.prog) (fn := Tryz.f52) (c := Tryz.f52.body.getD .skip) (args := [Value.slice p n c,
  Value.agg (arrI IntKind.u8 a 16 0).toArray]) (w := w) (R := R) pur1_ok Tryz.func52 hb e h

def VC_aidx (p : Option Addr) (n : Nat) (c : Nat) (a : Nat → Int) (w : World) (R : Ending → World → Prop) : Prop :=
 ∀ (n_1 : Nat) (W : World),
 Loc w.heap.size
 [Blk.mk n_1 53
 (arrI IntKind.u8 a 16 0)
 2]
 w W →
 ∃ (I : List Value → World → Prop),
 ∃ (m : List Value → World → Nat),
 I [Value.int IntKind.i64 0] W ∧
 ∀ (x : Int) (w' : World),
 I [Value.int IntKind.i64 x] w' →
 Loc w.heap.size
 [Blk.mk n_1 53
 (arrI IntKind.u8 a 16 0)
 0]
 w' w' →
 bsp (decide (x < (↑n : Int)))
 (nn true p fun (b o : Nat) =>
 (0 ≤ x ∧ x < (↑n : Int)) ∧
 ∃ (f : Nat → Int),
 (∀ (W : World),
 Loc w.heap.size
 [Blk.mk n_1 53
 (arrI IntKind.u8 a 16 0)
 0]
 w' W →
 AtL W b (o + x.toNat * 16)
 (arrI IntKind.u8 f 16 0)) ∧
 ∃ (r : Bool),
 EqP Tryz.prog 53
 (Value.agg
 (arrI IntKind.u8 a 16 0).toArray)
 (Value.agg
 (arrI IntKind.u8 f 16 0).toArray)
 r ∧
 bsp r
 (∀ (W : World),
 Loc w.heap.size
 [Blk.mk n_1 53
 (arrI IntKind.u8 a 16 0)
 0]
 w' W →
 R (Ending.returned (Value.int IntKind.i64 x)) W)
 (∀ (W : World),
 Loc w.heap.size
 [Blk.mk n_1 53
 (arrI IntKind.u8 a 16 0)
 0]
 w' W →
 I [Value.int IntKind.i64 (IntKind.i64.wrap (x + 1))] W ∧
 m [Value.int IntKind.i64 (IntKind.i64.wrap (x + 1))] W < m [Value.int IntKind.i64 x] w'))
 (R (Ending.returned (Value.int IntKind.i64 (-1))) w')
theorem vc_aidx (p : Option Addr) (n : Nat) (c : Nat) (a : Nat → Int) (w : World) (R : Ending → World → Prop) (h : VC_aidx p n c a w R) : Calls Tryz.prog 76 ([Value.slice
    p n c,
  Value.agg (arrI IntKind.u8 a 16 0).toArray] : List Value).toArray w R := by
  have e : execR2 { P := Tryz.prog, loops := [(2, [(8, Ck.int IntKind.i64)])], pur := pur1, tails := [], joins := [], boxes := [] } Tryz.f76.results.toList R (Tryz.f76.body.getD .skip) (initF [Value.slice
    p n c,
  Value.agg
    (arrI IntKind.u8 a 16
        0).toArray] (Tryz.f76.ntmps - ([Value.slice p n c,
  Value.agg (arrI IntKind.u8 a 16 0).toArray] : List Value).length)) w = VC_aidx p n c a w R := by kernel_rfl
  have hb : Tryz.f76.body = some (Tryz.f76.body.getD .skip) := by kernel_rfl
  exact calls_of_exec2' (P := Tryz.prog) (fn := Tryz.f76) (c := Tryz.f76.body.getD .skip) (args := [Value.slice p n c,
  Value.agg (arrI IntKind.u8 a 16 0).toArray]) (w := w) (R := R) pur1_ok Tryz.func76 hb e h

def VC_aclone (p : Option Addr) (n : Nat) (c : Nat) (w : World) (R : Ending → World → Prop) : Prop :=
 bsp p.isNone (R (Ending.returned (Value.slice none 0 0)) w)
 (∀ (n_1 : Nat) (W : World),
 Loc w.heap.size [Blk.mk n_1 53 [] 2] w W →
 ∃ (base : Nat),
 ∃ (xs : List Value),
 ∃ (news : List Value),
 W.ownsRow base 53 16 (Value.slice (some (Addr.mk n_1 0 none)) 0 0) 0 xs ∧
 news.length = n * 16 ∧
 SrcP W p news ∧
 0 + n ≤ 9223372036854775807 ∧
 (0 + n) * 16 ≤ 140737488355328 ∧
 base ≤ W.heap.size ∧
 ∀ (p' : Option Addr) (c' : Nat) (w' : World),
 w'.ownsRow base 53 16 (Value.slice p' (0 + n) c') (0 + n) (xs ++ news) →
 W.grownBy w' (Value.slice (some (Addr.mk n_1 0 none)) 0 0).ownBlock →
 (0 + n ≤ 0 → p' = some (Addr.mk n_1 0 none) ∧ c' = 0) →
 KeptL [] W w' ∧ R (Ending.returned (Value.slice p' (0 + n) c')) w')
theorem vc_aclone (p : Option Addr) (n : Nat) (c : Nat) (w : World) (R : Ending → World → Prop) (h : VC_aclone p n c w R) : Calls Tryz.prog 77 ([Value.slice
    p n c] : List Value).toArray w R := by
  have e : execR2 { P := Tryz.prog, loops := [], pur := pur1, tails := [], joins := [], boxes := [] } Tryz.f77.results.toList R (Tryz.f77.body.getD .skip) (initF [Value.slice
    p n c] (Tryz.f77.ntmps - ([Value.slice p n c] : List Value).length)) w = VC_aclone p n c w R := by kernel_rfl
  have hb : Tryz.f77.body = some (Tryz.f77.body.getD .skip) := by kernel_rfl
  exact calls_of_exec2' (P := Tryz.prog) (fn := Tryz.f77) (c := Tryz.f77.body.getD .skip) (args := [Value.slice p n
    c]) (w := w) (R := R) pur1_ok Tryz.func77 hb e h

def VC_aequal (p : Option Addr) (n : Nat) (c : Nat) (p2 : Option Addr) (n2 : Nat) (c2 : Nat) (w : World) (R : Ending → World → Prop) : Prop :=
 bsp ((↑n : Int) != (↑n2 : Int)) (R (Ending.returned (Value.bool false)) w)
 (∃ (I : List Value → World → Prop),
 ∃ (m : List Value → World → Nat),
 I [Value.int IntKind.i64 0] w ∧
 ∀ (x : Int) (w' : World),
 I [Value.int IntKind.i64 x] w' →
 bsp (decide (x < (↑n : Int)))
 (nn true p fun (b o : Nat) =>
 (0 ≤ x ∧ x < (↑n : Int)) ∧
 ∃ (f : Nat → Int),
 (∀ (W : World),
 Loc w.heap.size [] w' W →
 AtL W b (o + x.toNat * 16)
 (arrI IntKind.u8 f 16 0)) ∧
 nn true p2 fun (b o : Nat) =>
 (0 ≤ x ∧ x < (↑n2 : Int)) ∧
 ∃ (f_1 : Nat → Int),
 (∀ (W : World),
 Loc w.heap.size [] w' W →
 AtL W b (o + x.toNat * 16)
 (arrI IntKind.u8 f_1 16 0)) ∧
 ∃ (r : Bool),
 EqP Tryz.prog 53
 (Value.agg
 (arrI IntKind.u8 f 16 0).toArray)
 (Value.agg
 (arrI IntKind.u8 f_1 16 0).toArray)
 r ∧
 bsp (!r) (∀ (W : World), Loc w.heap.size [] w' W → R (Ending.returned (Value.bool false)) W)
 (∀ (W : World),
 Loc w.heap.size [] w' W →
 I [Value.int IntKind.i64 (IntKind.i64.wrap (x + 1))] W ∧
 m [Value.int IntKind.i64 (IntKind.i64.wrap (x + 1))] W < m [Value.int IntKind.i64 x] w'))
 (R (Ending.returned (Value.bool true)) w'))
theorem vc_aequal (p : Option Addr) (n : Nat) (c : Nat) (p2 : Option Addr) (n2 : Nat) (c2 : Nat) (w : World) (R : Ending → World → Prop) (h : VC_aequal p n c p2 n2 c2 w R) : Calls Tryz.prog 56 ([Value.slice
    p n c,
  Value.slice p2 n2 c2] : List Value).toArray w R := by
  have e : execR2 { P := Tryz.prog, loops := [(4, [(13, Ck.int IntKind.i64)])], pur := pur1, tails := [], joins := [], boxes := [] } Tryz.f56.results.toList R (Tryz.f56.body.getD .skip) (initF [Value.slice
    p n c,
  Value.slice p2 n2
    c2] (Tryz.f56.ntmps - ([Value.slice p n c,
  Value.slice p2 n2 c2] : List Value).length)) w = VC_aequal p n c p2 n2 c2 w R := by kernel_rfl
  have hb : Tryz.f56.body = some (Tryz.f56.body.getD .skip) := by kernel_rfl
  exact calls_of_exec2' (P := Tryz.prog) (fn := Tryz.f56) (c := Tryz.f56.body.getD .skip) (args := [Value.slice p n c,
  Value.slice p2 n2 c2]) (w := w) (R := R) pur1_ok Tryz.func56 hb e h

def VC_dcheck (id : Nat → Int) (au : Nat → Int) (g : ByteArray) (v : Int) (rm : Bool) (md : Bool) (p : Option Addr) (n : Nat) (c : Nat) (t : ByteArray) (w : World) (R : Ending → World → Prop) : Prop :=
 ∀ (n_1 : Nat) (W : World),
 Loc w.heap.size
 [Blk.mk n_1 56
 (arrI IntKind.u8 id 32 0 ++ (arrI IntKind.u8 au 16 0 ++ [Value.string g,
 Value.int IntKind.i64 v, Value.bool rm, Value.bool md, Value.slice p n c, Value.string t]))
 2]
 w W →
 CallsS Tryz.prog 54 #[Value.string g] W fun (e : Ending) (w' : World) =>
 ∃ (x : Int),
 e = Ending.returned (Value.int IntKind.i64 x) ∧
 KeptL [n_1] W w' ∧
 bsp (x != 0) (R (Ending.returned (Value.int IntKind.i64 x)) w')
 (∃ (x : Int),
 gimp (!decide (v < 0)) (w'.cell? (Addr.mk n_1 (0 + 49) none) = some (Value.int IntKind.i64 x)) ∧
 bsp (decide (v < 0) || decide (x > 1000000)) (R (Ending.returned (Value.int IntKind.i64 2)) w')
 (∃ (x : Bool),
 gimp rm (w'.cell? (Addr.mk n_1 (0 + 51) none) = some (Value.bool x)) ∧
 ∃ (p_1 : Option Addr),
 ∃ (n_2 : Nat),
 ∃ (c_1 : Nat),
 gimp (rm && !x) (w'.cell? (Addr.mk n_1 (0 + 52) none) = some (Value.slice p_1 n_2 c_1)) ∧
 ∃ (x_1 : ByteArray),
 gimp (rm && !(x || decide ((↑n_2 : Int) > 0)))
 (w'.cell? (Addr.mk n_1 (0 + 53) none) = some (Value.string x_1)) ∧
 bsp (rm && (x || decide ((↑n_2 : Int) > 0) || !x_1.toList == []))
 (R (Ending.returned (Value.int IntKind.i64 3)) w')
 (bsp (decide ((↑n : Int) > 8)) (R (Ending.returned (Value.int IntKind.i64 9)) w')
 (∃ (I : List Value → World → Prop),
 ∃ (m : List Value → World → Nat),
 I [Value.int IntKind.i64 0] w' ∧
 ∀ (x : Int) (w' : World),
 I [Value.int IntKind.i64 x] w' →
 Loc w.heap.size
 [Blk.mk n_1 56
 (arrI IntKind.u8 id 32 0 ++ (arrI IntKind.u8 au 16 0 ++ [Value.string g, Value.int IntKind.i64 v, Value.bool rm, Value.bool md, Value.slice p n c,
 Value.string t]))
 0]
 w' w' →
 bsp (decide (x < (↑n : Int)))
 (nn true p fun (b o : Nat) =>
 (0 ≤ x ∧ x < (↑n : Int)) ∧
 ∃ (f : Nat → Int),
 AtL w' b (o + x.toNat * 16)
 (arrI IntKind.u8 f 16 0) ∧
 ∀ (n_3 : Nat),
 (0 ≤ x ∧ x ≤ (↑c : Int)) ∧
 ∀ (W : World),
 Loc w.heap.size
 [Blk.mk n_1 56
 (arrI IntKind.u8 id 32 0 ++ (arrI IntKind.u8 au 16 0 ++ [Value.string g,
 Value.int IntKind.i64 v, Value.bool rm, Value.bool md, Value.slice p n c,
 Value.string t]))
 0,
 Blk.mk n_3 53
 (arrI IntKind.u8 f 16 0)
 (wrM 2)]
 w' W →
 CallsS Tryz.prog 52
 #[Value.slice p x.toNat c,
 Value.agg
 (arrI IntKind.u8 f 16 0).toArray]
 W fun (e : Ending) (w'_1 : World) =>
 ∃ (x_2 : Bool),
 e = Ending.returned (Value.bool x_2) ∧
 KeptL [n_1, n_3] W w'_1 ∧
 bsp x_2 (R (Ending.returned (Value.int IntKind.i64 7)) w'_1)
 (I [Value.int IntKind.i64 (IntKind.i64.wrap (x + 1))] w'_1 ∧
 m [Value.int IntKind.i64 (IntKind.i64.wrap (x + 1))] w'_1 <
 m [Value.int IntKind.i64 x] w'))
 (bsp (decide ((↑t.size : Int) > 200)) (R (Ending.returned (Value.int IntKind.i64 5)) w')
 (R (Ending.returned (Value.int IntKind.i64 0)) w'))))))
theorem vc_dcheck (id : Nat → Int) (au : Nat → Int) (g : ByteArray) (v : Int) (rm : Bool) (md : Bool) (p : Option Addr) (n : Nat) (c : Nat) (t : ByteArray) (w : World) (R : Ending → World → Prop) (h : VC_dcheck id au g v rm md p n c t w R) : Calls Tryz.prog 24 ([Value.agg
    (arrI IntKind.u8 id 32 0 ++
        (arrI IntKind.u8 au 16 0 ++
          [Value.string g, Value.int IntKind.i64 v, Value.bool rm, Value.bool md, Value.slice p n c,
            Value.string t])).toArray] : List Value).toArray w R := by
  have e : execR2 { P := Tryz.prog, loops := [(11, [(47, Ck.int IntKind.i64)])], pur := pur1, tails := [(13, 5)], joins := [], boxes := [] } Tryz.f24.results.toList R (Tryz.f24.body.getD .skip) (initF [Value.agg
    (arrI IntKind.u8 id 32 0 ++
        (arrI IntKind.u8 au 16 0 ++
          [Value.string g, Value.int IntKind.i64 v, Value.bool rm, Value.bool md, Value.slice p n c,
            Value.string
              t])).toArray] (Tryz.f24.ntmps - ([Value.agg
    (arrI IntKind.u8 id 32 0 ++
        (arrI IntKind.u8 au 16 0 ++
          [Value.string g, Value.int IntKind.i64 v, Value.bool rm, Value.bool md, Value.slice p n c,
            Value.string t])).toArray] : List Value).length)) w = VC_dcheck id au g v rm md p n c t w R := by kernel_rfl
  have hb : Tryz.f24.body = some (Tryz.f24.body.getD .skip) := by kernel_rfl
  exact calls_of_exec2' (P := Tryz.prog) (fn := Tryz.f24) (c := Tryz.f24.body.getD .skip) (args := [Value.agg
    (arrI IntKind.u8 id 32 0 ++
        (arrI IntKind.u8 au 16 0 ++
          [Value.string g, Value.int IntKind.i64 v, Value.bool rm, Value.bool md, Value.slice p n c,
            Value.string t])).toArray]) (w := w) (R := R) pur1_ok Tryz.func24 hb e h

def VC_dclone (id : Nat → Int) (au : Nat → Int) (g : ByteArray) (v : Int) (rm : Bool) (md : Bool) (p : Option Addr) (n : Nat) (c : Nat) (t : ByteArray) (w : World) (R : Ending → World → Prop) : Prop :=
 ∀ (n_1 n_2 : Nat) (W : World),
 Loc w.heap.size
 [Blk.mk n_2 56
 [Value.int IntKind.u8 0, Value.int IntKind.u8 0, Value.int IntKind.u8 0, Value.int IntKind.u8 0,
 Value.int IntKind.u8 0, Value.int IntKind.u8 0, Value.int IntKind.u8 0, Value.int IntKind.u8 0,
 Value.int IntKind.u8 0, Value.int IntKind.u8 0, Value.int IntKind.u8 0, Value.int IntKind.u8 0,
 Value.int IntKind.u8 0, Value.int IntKind.u8 0, Value.int IntKind.u8 0, Value.int IntKind.u8 0,
 Value.int IntKind.u8 0, Value.int IntKind.u8 0, Value.int IntKind.u8 0, Value.int IntKind.u8 0,
 Value.int IntKind.u8 0, Value.int IntKind.u8 0, Value.int IntKind.u8 0, Value.int IntKind.u8 0,
 Value.int IntKind.u8 0, Value.int IntKind.u8 0, Value.int IntKind.u8 0, Value.int IntKind.u8 0,
 Value.int IntKind.u8 0, Value.int IntKind.u8 0, Value.int IntKind.u8 0, Value.int IntKind.u8 0,
 Value.int IntKind.u8 0, Value.int IntKind.u8 0, Value.int IntKind.u8 0, Value.int IntKind.u8 0,
 Value.int IntKind.u8 0, Value.int IntKind.u8 0, Value.int IntKind.u8 0, Value.int IntKind.u8 0,
 Value.int IntKind.u8 0, Value.int IntKind.u8 0, Value.int IntKind.u8 0, Value.int IntKind.u8 0,
 Value.int IntKind.u8 0, Value.int IntKind.u8 0, Value.int IntKind.u8 0, Value.int IntKind.u8 0,
 Value.string (ByteArray.mk #[]), Value.int IntKind.i64 0, Value.bool false, Value.bool false,
 Value.slice none 0 0, Value.string (ByteArray.mk #[])]
 2,
 Blk.mk n_1 56
 (arrI IntKind.u8 id 32 0 ++ (arrI IntKind.u8 au 16 0 ++ [Value.string g,
 Value.int IntKind.i64 v, Value.bool rm, Value.bool md, Value.slice p n c, Value.string t]))
 2]
 w W →
 CallsS Tryz.prog 77 #[Value.slice p n c] W fun (e : Ending) (w' : World) =>
 ∃ (p : Option Addr),
 ∃ (n : Nat),
 ∃ (c : Nat),
 e = Ending.returned (Value.slice p n c) ∧
 KeptL [n_2, n_1] W w' ∧
 ∀ (W : World),
 Loc w.heap.size
 [Blk.mk n_2 56
 (arrI IntKind.u8 id 32 0 ++ (arrI IntKind.u8 au 16 0 ++ [Value.string g,
 Value.int IntKind.i64 v, Value.bool rm, Value.bool md, Value.slice p n c, Value.string t]))
 (wrM 0),
 Blk.mk n_1 56
 (arrI IntKind.u8 id 32 0 ++ (arrI IntKind.u8 au 16 0 ++ [Value.string g,
 Value.int IntKind.i64 v, Value.bool rm, Value.bool md, Value.slice p n c, Value.string t]))
 (wrM 0)]
 w' W →
 R
 (Ending.returned
 (Value.agg
 (arrI IntKind.u8 id 32 0 ++ (arrI IntKind.u8 au 16 0 ++ [Value.string g,
 Value.int IntKind.i64 v, Value.bool rm, Value.bool md, Value.slice p n c, Value.string t])).toArray))
 W
theorem vc_dclone (id : Nat → Int) (au : Nat → Int) (g : ByteArray) (v : Int) (rm : Bool) (md : Bool) (p : Option Addr) (n : Nat) (c : Nat) (t : ByteArray) (w : World) (R : Ending → World → Prop) (h : VC_dclone id au g v rm md p n c t w R) : Calls Tryz.prog 53 ([Value.agg
    (arrI IntKind.u8 id 32 0 ++
        (arrI IntKind.u8 au 16 0 ++
          [Value.string g, Value.int IntKind.i64 v, Value.bool rm, Value.bool md, Value.slice p n c,
            Value.string t])).toArray] : List Value).toArray w R := by
  have e : execR2 { P := Tryz.prog, loops := [], pur := pur1, tails := [], joins := [], boxes := [] } Tryz.f53.results.toList R (Tryz.f53.body.getD .skip) (initF [Value.agg
    (arrI IntKind.u8 id 32 0 ++
        (arrI IntKind.u8 au 16 0 ++
          [Value.string g, Value.int IntKind.i64 v, Value.bool rm, Value.bool md, Value.slice p n c,
            Value.string
              t])).toArray] (Tryz.f53.ntmps - ([Value.agg
    (arrI IntKind.u8 id 32 0 ++
        (arrI IntKind.u8 au 16 0 ++
          [Value.string g, Value.int IntKind.i64 v, Value.bool rm, Value.bool md, Value.slice p n c,
            Value.string t])).toArray] : List Value).length)) w = VC_dclone id au g v rm md p n c t w R := by kernel_rfl
  have hb : Tryz.f53.body = some (Tryz.f53.body.getD .skip) := by kernel_rfl
  exact calls_of_exec2' (P := Tryz.prog) (fn := Tryz.f53) (c := Tryz.f53.body.getD .skip) (args := [Value.agg
    (arrI IntKind.u8 id 32 0 ++
        (arrI IntKind.u8 au 16 0 ++
          [Value.string g, Value.int IntKind.i64 v, Value.bool rm, Value.bool md, Value.slice p n c,
            Value.string t])).toArray]) (w := w) (R := R) pur1_ok Tryz.func53 hb e h

def VC_dequal (id : Nat → Int) (au : Nat → Int) (g : ByteArray) (v : Int) (rm : Bool) (md : Bool) (p : Option Addr) (n : Nat) (c : Nat) (t : ByteArray) (id2 : Nat → Int) (au2 : Nat → Int) (g2 : ByteArray) (v2 : Int) (rm2 : Bool) (md2 : Bool) (p2 : Option Addr) (n2 : Nat) (c2 : Nat) (t2 : ByteArray) (w : World) (R : Ending → World → Prop) : Prop :=
 ∀ (n_1 n_2 : Nat),
 ∃ (r : Bool),
 EqP Tryz.prog 52
 (Value.agg
 (arrI IntKind.u8 id 32 0).toArray)
 (Value.agg
 (arrI IntKind.u8 id2 32 0).toArray)
 r ∧
 ∃ (f : Nat → Int),
 gimp r
 (∀ (W : World),
 Loc w.heap.size
 [Blk.mk n_2 56
 (arrI IntKind.u8 id2 32 0 ++ (arrI IntKind.u8 au2 16 0 ++ [Value.string g2, Value.int IntKind.i64 v2, Value.bool rm2, Value.bool md2, Value.slice p2 n2 c2,
 Value.string t2]))
 2,
 Blk.mk n_1 56
 (arrI IntKind.u8 id 32 0 ++ (arrI IntKind.u8 au 16 0 ++ [Value.string g,
 Value.int IntKind.i64 v, Value.bool rm, Value.bool md, Value.slice p n c, Value.string t]))
 2]
 w W →
 AtL W n_1 (0 + 32)
 (arrI IntKind.u8 f 16 0)) ∧
 ∃ (f_1 : Nat → Int),
 gimp r
 (∀ (W : World),
 Loc w.heap.size
 [Blk.mk n_2 56
 (arrI IntKind.u8 id2 32 0 ++ (arrI IntKind.u8 au2 16 0 ++ [Value.string g2, Value.int IntKind.i64 v2, Value.bool rm2, Value.bool md2, Value.slice p2 n2 c2,
 Value.string t2]))
 2,
 Blk.mk n_1 56
 (arrI IntKind.u8 id 32 0 ++ (arrI IntKind.u8 au 16 0 ++ [Value.string g,
 Value.int IntKind.i64 v, Value.bool rm, Value.bool md, Value.slice p n c, Value.string t]))
 2]
 w W →
 AtL W n_2 (0 + 32)
 (arrI IntKind.u8 f_1 16 0)) ∧
 ∃ (r_1 : Bool),
 gimp r
 (EqP Tryz.prog 53
 (Value.agg
 (arrI IntKind.u8 f 16 0).toArray)
 (Value.agg
 (arrI IntKind.u8 f_1 16 0).toArray)
 r_1) ∧
 ∃ (x : ByteArray),
 gimp (r && r_1)
 (∀ (W : World),
 Loc w.heap.size
 [Blk.mk n_2 56
 (arrI IntKind.u8 id2 32 0 ++ (arrI IntKind.u8 au2 16 0 ++ [Value.string g2, Value.int IntKind.i64 v2, Value.bool rm2, Value.bool md2, Value.slice p2 n2 c2,
 Value.string t2]))
 2,
 Blk.mk n_1 56
 (arrI IntKind.u8 id 32 0 ++ (arrI IntKind.u8 au 16 0 ++ [Value.string g, Value.int IntKind.i64 v, Value.bool rm, Value.bool md, Value.slice p n c,
 Value.string t]))
 2]
 w W →
 W.cell? (Addr.mk n_1 (0 + 48) none) = some (Value.string x)) ∧
 ∃ (x_1 : ByteArray),
 gimp (r && r_1)
 (∀ (W : World),
 Loc w.heap.size
 [Blk.mk n_2 56
 (arrI IntKind.u8 id2 32 0 ++ (arrI IntKind.u8 au2 16 0 ++ [Value.string g2, Value.int IntKind.i64 v2, Value.bool rm2, Value.bool md2, Value.slice p2 n2 c2,
 Value.string t2]))
 2,
 Blk.mk n_1 56
 (arrI IntKind.u8 id 32 0 ++ (arrI IntKind.u8 au 16 0 ++ [Value.string g, Value.int IntKind.i64 v, Value.bool rm, Value.bool md, Value.slice p n c,
 Value.string t]))
 2]
 w W →
 W.cell? (Addr.mk n_2 (0 + 48) none) = some (Value.string x_1)) ∧
 ∃ (x_2 : Int),
 gimp (r && r_1 && x.toList == x_1.toList)
 (∀ (W : World),
 Loc w.heap.size
 [Blk.mk n_2 56
 (arrI IntKind.u8 id2 32 0 ++ (arrI IntKind.u8 au2 16 0 ++ [Value.string g2, Value.int IntKind.i64 v2, Value.bool rm2, Value.bool md2, Value.slice p2 n2 c2,
 Value.string t2]))
 2,
 Blk.mk n_1 56
 (arrI IntKind.u8 id 32 0 ++ (arrI IntKind.u8 au 16 0 ++ [Value.string g, Value.int IntKind.i64 v, Value.bool rm, Value.bool md, Value.slice p n c,
 Value.string t]))
 2]
 w W →
 W.cell? (Addr.mk n_1 (0 + 49) none) = some (Value.int IntKind.i64 x_2)) ∧
 ∃ (x_3 : Int),
 gimp (r && r_1 && x.toList == x_1.toList)
 (∀ (W : World),
 Loc w.heap.size
 [Blk.mk n_2 56
 (arrI IntKind.u8 id2 32 0 ++ (arrI IntKind.u8 au2 16 0 ++ [Value.string g2, Value.int IntKind.i64 v2, Value.bool rm2, Value.bool md2, Value.slice p2 n2 c2,
 Value.string t2]))
 2,
 Blk.mk n_1 56
 (arrI IntKind.u8 id 32 0 ++ (arrI IntKind.u8 au 16 0 ++ [Value.string g, Value.int IntKind.i64 v, Value.bool rm, Value.bool md, Value.slice p n c,
 Value.string t]))
 2]
 w W →
 W.cell? (Addr.mk n_2 (0 + 49) none) = some (Value.int IntKind.i64 x_3)) ∧
 ∃ (x_4 : Bool),
 gimp (r && r_1 && x.toList == x_1.toList && x_2 == x_3)
 (∀ (W : World),
 Loc w.heap.size
 [Blk.mk n_2 56
 (arrI IntKind.u8 id2 32 0 ++ (arrI IntKind.u8 au2 16 0 ++ [Value.string g2, Value.int IntKind.i64 v2, Value.bool rm2, Value.bool md2,
 Value.slice p2 n2 c2, Value.string t2]))
 2,
 Blk.mk n_1 56
 (arrI IntKind.u8 id 32 0 ++ (arrI IntKind.u8 au 16 0 ++ [Value.string g, Value.int IntKind.i64 v, Value.bool rm, Value.bool md, Value.slice p n c,
 Value.string t]))
 2]
 w W →
 W.cell? (Addr.mk n_1 (0 + 50) none) = some (Value.bool x_4)) ∧
 ∃ (x_5 : Bool),
 gimp (r && r_1 && x.toList == x_1.toList && x_2 == x_3)
 (∀ (W : World),
 Loc w.heap.size
 [Blk.mk n_2 56
 (arrI IntKind.u8 id2 32 0 ++ (arrI IntKind.u8 au2 16 0 ++ [Value.string g2, Value.int IntKind.i64 v2, Value.bool rm2, Value.bool md2,
 Value.slice p2 n2 c2, Value.string t2]))
 2,
 Blk.mk n_1 56
 (arrI IntKind.u8 id 32 0 ++ (arrI IntKind.u8 au 16 0 ++ [Value.string g, Value.int IntKind.i64 v, Value.bool rm, Value.bool md, Value.slice p n c,
 Value.string t]))
 2]
 w W →
 W.cell? (Addr.mk n_2 (0 + 50) none) = some (Value.bool x_5)) ∧
 ∃ (x_6 : Bool),
 gimp (r && r_1 && x.toList == x_1.toList && x_2 == x_3 && x_4 == x_5)
 (∀ (W : World),
 Loc w.heap.size
 [Blk.mk n_2 56
 (arrI IntKind.u8 id2 32 0 ++ (arrI IntKind.u8 au2 16 0 ++ [Value.string g2, Value.int IntKind.i64 v2, Value.bool rm2,
 Value.bool md2, Value.slice p2 n2 c2, Value.string t2]))
 2,
 Blk.mk n_1 56
 (arrI IntKind.u8 id 32 0 ++ (arrI IntKind.u8 au 16 0 ++ [Value.string g, Value.int IntKind.i64 v, Value.bool rm, Value.bool md, Value.slice p n c,
 Value.string t]))
 2]
 w W →
 W.cell? (Addr.mk n_1 (0 + 51) none) = some (Value.bool x_6)) ∧
 ∃ (x_7 : Bool),
 gimp (r && r_1 && x.toList == x_1.toList && x_2 == x_3 && x_4 == x_5)
 (∀ (W : World),
 Loc w.heap.size
 [Blk.mk n_2 56
 (arrI IntKind.u8 id2 32 0 ++ (arrI IntKind.u8 au2 16 0 ++ [Value.string g2,
 Value.int IntKind.i64 v2, Value.bool rm2, Value.bool md2, Value.slice p2 n2 c2,
 Value.string t2]))
 2,
 Blk.mk n_1 56
 (arrI IntKind.u8 id 32 0 ++ (arrI IntKind.u8 au 16 0 ++ [Value.string g,
 Value.int IntKind.i64 v, Value.bool rm, Value.bool md, Value.slice p n c,
 Value.string t]))
 2]
 w W →
 W.cell? (Addr.mk n_2 (0 + 51) none) = some (Value.bool x_7)) ∧
 ∃ (p_1 : Option Addr),
 ∃ (n_3 : Nat),
 ∃ (c_1 : Nat),
 gimp (r && r_1 && x.toList == x_1.toList && x_2 == x_3 && x_4 == x_5 && x_6 == x_7)
 (∀ (W : World),
 Loc w.heap.size
 [Blk.mk n_2 56
 (arrI IntKind.u8 id2 32 0 ++ (arrI IntKind.u8 au2 16 0 ++ [Value.string g2,
 Value.int IntKind.i64 v2, Value.bool rm2, Value.bool md2, Value.slice p2 n2 c2,
 Value.string t2]))
 2,
 Blk.mk n_1 56
 (arrI IntKind.u8 id 32 0 ++ (arrI IntKind.u8 au 16 0 ++ [Value.string g,
 Value.int IntKind.i64 v, Value.bool rm, Value.bool md, Value.slice p n c,
 Value.string t]))
 2]
 w W →
 W.cell? (Addr.mk n_1 (0 + 52) none) = some (Value.slice p_1 n_3 c_1)) ∧
 ∃ (p_2 : Option Addr),
 ∃ (n_4 : Nat),
 ∃ (c_2 : Nat),
 gimp (r && r_1 && x.toList == x_1.toList && x_2 == x_3 && x_4 == x_5 && x_6 == x_7)
 (∀ (W : World),
 Loc w.heap.size
 [Blk.mk n_2 56
 (arrI IntKind.u8 id2 32 0 ++ (arrI IntKind.u8 au2 16 0 ++ [Value.string g2,
 Value.int IntKind.i64 v2, Value.bool rm2, Value.bool md2, Value.slice p2 n2 c2,
 Value.string t2]))
 2,
 Blk.mk n_1 56
 (arrI IntKind.u8 id 32 0 ++ (arrI IntKind.u8 au 16 0 ++ [Value.string g,
 Value.int IntKind.i64 v, Value.bool rm, Value.bool md, Value.slice p n c,
 Value.string t]))
 2]
 w W →
 W.cell? (Addr.mk n_2 (0 + 52) none) = some (Value.slice p_2 n_4 c_2)) ∧
 ∀ (W : World),
 Loc w.heap.size
 [Blk.mk n_2 56
 (arrI IntKind.u8 id2 32 0 ++ (arrI IntKind.u8 au2 16 0 ++ [Value.string g2,
 Value.int IntKind.i64 v2, Value.bool rm2, Value.bool md2, Value.slice p2 n2 c2,
 Value.string t2]))
 2,
 Blk.mk n_1 56
 (arrI IntKind.u8 id 32 0 ++ (arrI IntKind.u8 au 16 0 ++ [Value.string g,
 Value.int IntKind.i64 v, Value.bool rm, Value.bool md, Value.slice p n c,
 Value.string t]))
 2]
 w W →
 bsp (r && r_1 && x.toList == x_1.toList && x_2 == x_3 && x_4 == x_5 && x_6 == x_7)
 (CallsS Tryz.prog 56 #[Value.slice p_1 n_3 c_1, Value.slice p_2 n_4 c_2] W
 fun (e : Ending) (w' : World) =>
 ∃ (x : Bool),
 e = Ending.returned (Value.bool x) ∧
 KeptL [n_2, n_1] W w' ∧
 ∃ (x_8 : ByteArray),
 gimp (true && x)
 (w'.cell? (Addr.mk n_1 (0 + 53) none) = some (Value.string x_8)) ∧
 ∃ (x_9 : ByteArray),
 gimp (true && x)
 (w'.cell? (Addr.mk n_2 (0 + 53) none) = some (Value.string x_9)) ∧
 R (Ending.returned (Value.bool (true && x && x_8.toList == x_9.toList))) w')
 (KeptL [n_2, n_1] W W ∧
 ∃ (x : ByteArray),
 True ∧
 ∃ (x_8 : ByteArray),
 True ∧ R (Ending.returned (Value.bool (false && x.toList == x_8.toList))) W)
theorem vc_dequal (id : Nat → Int) (au : Nat → Int) (g : ByteArray) (v : Int) (rm : Bool) (md : Bool) (p : Option Addr) (n : Nat) (c : Nat) (t : ByteArray) (id2 : Nat → Int) (au2 : Nat → Int) (g2 : ByteArray) (v2 : Int) (rm2 : Bool) (md2 : Bool) (p2 : Option Addr) (n2 : Nat) (c2 : Nat) (t2 : ByteArray) (w : World) (R : Ending → World → Prop) (h : VC_dequal id au g v rm md p n c t id2 au2 g2 v2 rm2 md2 p2 n2 c2 t2 w R) : Calls Tryz.prog 27 ([Value.agg
    (arrI IntKind.u8 id 32 0 ++
        (arrI IntKind.u8 au 16 0 ++
          [Value.string g, Value.int IntKind.i64 v, Value.bool rm, Value.bool md, Value.slice p n c,
            Value.string t])).toArray,
  Value.agg
    (arrI IntKind.u8 id2 32 0 ++
        (arrI IntKind.u8 au2 16 0 ++
          [Value.string g2, Value.int IntKind.i64 v2, Value.bool rm2, Value.bool md2, Value.slice p2 n2 c2,
            Value.string t2])).toArray] : List Value).toArray w R := by
  have e : execR2 { P := Tryz.prog, loops := [], pur := pur1, tails := [], joins := [], boxes := [] } Tryz.f27.results.toList R (Tryz.f27.body.getD .skip) (initF [Value.agg
    (arrI IntKind.u8 id 32 0 ++
        (arrI IntKind.u8 au 16 0 ++
          [Value.string g, Value.int IntKind.i64 v, Value.bool rm, Value.bool md, Value.slice p n c,
            Value.string t])).toArray,
  Value.agg
    (arrI IntKind.u8 id2 32 0 ++
        (arrI IntKind.u8 au2 16 0 ++
          [Value.string g2, Value.int IntKind.i64 v2, Value.bool rm2, Value.bool md2, Value.slice p2 n2 c2,
            Value.string
              t2])).toArray] (Tryz.f27.ntmps - ([Value.agg
    (arrI IntKind.u8 id 32 0 ++
        (arrI IntKind.u8 au 16 0 ++
          [Value.string g, Value.int IntKind.i64 v, Value.bool rm, Value.bool md, Value.slice p n c,
            Value.string t])).toArray,
  Value.agg
    (arrI IntKind.u8 id2 32 0 ++
        (arrI IntKind.u8 au2 16 0 ++
          [Value.string g2, Value.int IntKind.i64 v2, Value.bool rm2, Value.bool md2, Value.slice p2 n2 c2,
            Value.string
              t2])).toArray] : List Value).length)) w = VC_dequal id au g v rm md p n c t id2 au2 g2 v2 rm2 md2 p2 n2 c2 t2 w R := by kernel_rfl
  have hb : Tryz.f27.body = some (Tryz.f27.body.getD .skip) := by kernel_rfl
  exact calls_of_exec2' (P := Tryz.prog) (fn := Tryz.f27) (c := Tryz.f27.body.getD .skip) (args := [Value.agg
    (arrI IntKind.u8 id 32 0 ++
        (arrI IntKind.u8 au 16 0 ++
          [Value.string g, Value.int IntKind.i64 v, Value.bool rm, Value.bool md, Value.slice p n c,
            Value.string t])).toArray,
  Value.agg
    (arrI IntKind.u8 id2 32 0 ++
        (arrI IntKind.u8 au2 16 0 ++
          [Value.string g2, Value.int IntKind.i64 v2, Value.bool rm2, Value.bool md2, Value.slice p2 n2 c2,
            Value.string t2])).toArray]) (w := w) (R := R) pur1_ok Tryz.func27 hb e h

end Go.Proofs.YtkkfnlehlkiejaaGreatDoor

/- Chapter 21: the contracts of rows of authors, of Definition.Check, clone, Equal. Bytes are bytes; the library's variable MaxLen holds a number. -/
namespace Go.Proofs.YtkkfnlehlkiejaaGreatDoor
open Go.RowKit

def BY (f : Nat → Int) : Prop := ∀ j : Nat, 0 ≤ f j ∧ f j ≤ 255
structure Df.OK (d : Df) : Prop where
  id : BY d.id
  au : BY d.au
  ms : ∀ m ∈ d.ms, BY m
theorem str_eq {a b : ByteArray} (h : a.toList = b.toList) : a = b := by
  rw [ByteArray.toList_eq, ByteArray.toList_eq] at h
  exact ByteArray.ext (Array.toList_inj.1 h)
theorem str_beq (a b : ByteArray) : (a.toList == b.toList) = decide (a = b) := by
  rw [Bool.eq_iff_iff]
  simp only [beq_iff_eq, decide_eq_true_eq]
  exact ⟨str_eq, fun h => by rw [h]⟩
theorem auI_len (f : Nat → Int) : (auI f).length = 16 := by simp [auI]
theorem auI_bd {f : Nat → Int} (h : BY f) : ∀ x ∈ auI f, 0 ≤ x ∧ x ≤ 255 := fun x hx => by
  obtain ⟨j, _, rfl⟩ := List.mem_map.1 hx
  exact h j
theorem auEq {f g : Nat → Int} (hf : BY f) (hg : BY g) : EqP Tryz.prog 53 (.agg (arrI .u8 f 16 0).toArray) (.agg (arrI .u8 g 16 0).toArray) (decide (auI f = auI g)) :=
  eq_bytes Tryz.underlying53 Tryz.underlying5 (by kernel_rfl) (by kernel_rfl) (by kernel_rfl) (by decide +kernel) (by kernel_rfl) (by kernel_rfl) (auI_len f) (auI_bd hf) (auI_len g) (auI_bd hg)
theorem idEqF {f g : Nat → Int} (hf : BY f) (hg : BY g) : EqP Tryz.prog 52 (.agg (arrI .u8 f 32 0).toArray) (.agg (arrI .u8 g 32 0).toArray) (decide (idI f = idI g)) :=
  idEq (idI_len f) (idI_bd hf) (idI_len g) (idI_bd hg)
theorem RowA.take {α : Type} {f : α → List Value} {L : Nat} {w : World} {p : Option Addr} {l : List α} (h : RowA f L w p l) (m : Nat) : RowA f L w p (l.take m) := fun k y hy => by
  rw [List.getElem?_take] at hy
  split at hy
  · exact h k y hy
  · cases hy
theorem src_rowA {α : Type} {f : α → List Value} {L : Nat} {w : World} {p : Option Addr} {l : List α} (h : RowA f L w p l) (hl : ∀ y, (f y).length = L) (h1 : ∀ y, ∀ u ∈ f y, u.oneCell' = true) (h0 : 0 < L) : SrcP w p (l.flatMap f) := by
  refine ⟨fun j u hj => ?_, fun u hu => by obtain ⟨z, _, hz⟩ := List.mem_flatMap.1 hu; exact h1 z u hz⟩
  have hlt := (List.getElem?_eq_some_iff.1 hj).1
  rw [len_flat f L l (fun y _ => hl y)] at hlt
  have hdiv : j / L < l.length := Nat.div_lt_of_lt_mul (by rw [Nat.mul_comm]; exact hlt)
  have hj2 : j / L * L + j % L = j := by rw [Nat.mul_comm]; exact Nat.div_add_mod j L
  obtain ⟨y, b, o, hy, hp, hat⟩ := h.get hdiv
  have h1 := flat_get f L l (j / L) y (j % L) (fun y _ => hl y) hy (Nat.mod_lt _ h0)
  rw [hj2, hj] at h1
  refine ⟨b, o, hp, ?_⟩
  have := hat.cell h1.symm
  rwa [Nat.add_assoc, hj2] at this
theorem arr_one (f : Nat → Int) (n : Nat) : ∀ u ∈ arrI .u8 f n 0, u.oneCell' = true := fun u hu => by
  obtain ⟨j, hj, e⟩ := List.getElem_of_mem hu
  have hl : ∀ (n i : Nat), (arrI .u8 f n i).length = n := fun n => by
    induction n with
    | zero => intro i; rfl
    | succ n ih => intro i; simp [arrI, ih]
  have hj' : j < n := by rw [hl] at hj; exact hj
  have := arrI_get .u8 f n 0 j hj'
  rw [List.getElem?_eq_getElem hj] at this
  simp at this
  rw [← e, this]; rfl
theorem rowA_none {α : Type} {f : α → List Value} {L : Nat} {w : World} {l : List α} (h : RowA f L w none l) : l = [] := by
  cases l with
  | nil => rfl
  | cons x r => obtain ⟨_, _, h, _⟩ := h 0 x rfl; cases h

/-! ### Rows of authors -/
theorem aidx_any (l : List (Nat → Int)) (p : Option Addr) (c : Nat) (a : Nat → Int) (w : World) (hR : RowA auC 16 w p l) (hm : ∀ m ∈ l, BY m) (ha : BY a) (hl : l.length ≤ 4611686018427387904) :
    Calls Tryz.prog 76 #[.slice p l.length c, .agg (arrI .u8 a 16 0).toArray] w fun e w' => (∃ x : Int, e = .returned (.int .i64 x) ∧ decide (x ≥ 0) = decide (auI a ∈ l.map auI)) ∧ K0 w w' := by
  refine vc_aidx p l.length c a w _ (fun n1 W hW => ?_)
  have kW : K0 w W := hW.kk rfl
  refine ⟨fun vs w' => ∃ i : Nat, vs = [.int .i64 (i : Int)] ∧ i ≤ l.length ∧ (∀ (j : Nat) (z : Nat → Int), j < i → l[j]? = some z → auI a ≠ auI z) ∧ K0 w w',
    fun vs _ => (match vs with | .int _ x :: _ => l.length - x.toNat | _ => 0), ⟨0, rfl, by omega, (fun j z h => by omega), kW⟩, ?_⟩
  rintro x w1 ⟨i, hv, hi, hall, k1⟩ _
  simp only [List.cons.injEq, Value.int.injEq, true_and, and_true] at hv
  subst hv
  refine bsp_intro (fun hlt => ?_) (fun hge => ?_)
  · have hlt : i < l.length := by simp at hlt; omega
    obtain ⟨z, b, o, hz, hp, hat⟩ := (hR.k0 k1).get hlt
    rw [Int.toNat_natCast]
    refine nn_is hp ⟨⟨by omega, by omega⟩, z, fun W hW => hat.k0 (hW.kk rfl), _, auEq ha (hm z (List.mem_of_getElem? hz)), bsp_intro (fun h => fun W hW => ?_) (fun h => fun W hW => ?_)⟩
    · have h : auI a = auI z := of_decide_eq_true h
      have : auI a ∈ l.map auI := List.mem_map.2 ⟨z, List.mem_of_getElem? hz, h.symm⟩
      exact ⟨⟨i, rfl, by rw [decide_eq_true this]; simp⟩, k1.trans (hW.kk rfl)⟩
    · have h : ¬ auI a = auI z := of_decide_eq_false h
      refine ⟨⟨i + 1, by rw [inc64 (by omega)], hlt, fun j y hj hy => ?_, k1.trans (hW.kk rfl)⟩, by rw [inc64 (by omega)]; simp only [Int.toNat_natCast]; omega⟩
      by_cases e : j = i
      · rw [e, hz] at hy; cases hy; exact h
      · exact hall j y (by omega) hy
  · have hi : i = l.length := by simp at hge; omega
    subst hi
    have : ¬ auI a ∈ l.map auI := fun hm => by
      obtain ⟨z, hz, e⟩ := List.mem_map.1 hm
      obtain ⟨j, hj, e2⟩ := List.getElem_of_mem hz
      exact hall j z hj (by rw [List.getElem?_eq_getElem hj, e2]) e.symm
    exact ⟨⟨-1, rfl, by rw [decide_eq_false this]; rfl⟩, k1⟩
theorem acont_any (l : List (Nat → Int)) (p : Option Addr) (c : Nat) (a : Nat → Int) (w : World) (hR : RowA auC 16 w p l) (hm : ∀ m ∈ l, BY m) (ha : BY a) (hl : l.length ≤ 4611686018427387904) :
    Calls Tryz.prog 52 #[.slice p l.length c, .agg (arrI .u8 a 16 0).toArray] w fun e w' => e = .returned (.bool (decide (auI a ∈ l.map auI))) ∧ K0 w w' := by
  refine vc_acont p l.length c a w _ (fun n1 W hW => ?_)
  have kW : K0 w W := hW.kk rfl
  exact ⟨(aidx_any l p c a W (hR.k0 kW) hm ha hl).mono fun e w1 ⟨⟨x, he, hx⟩, k1⟩ => ⟨_, he, .of_k0 k1, by rw [hx], kW.trans k1⟩⟩
theorem aclone_any (l : List (Nat → Int)) (p : Option Addr) (c : Nat) (w : World) (hR : RowA auC 16 w p l) (hl : l.length * 16 ≤ 140737488355328) :
    Calls Tryz.prog 77 #[.slice p l.length c] w fun e w' => (∃ (p' : Option Addr) (c' : Nat), e = .returned (.slice p' l.length c') ∧ w'.ownsRow w.heap.size 53 16 (.slice p' l.length c') l.length (l.flatMap auC)) ∧ K0 w w' := by
  refine vc_aclone p l.length c w _ (bsp_intro (fun h => ?_) (fun h => fun n1 W hW => ?_))
  · obtain rfl : p = none := by simpa using h
    have := rowA_none hR
    subst this
    exact ⟨⟨none, 0, rfl, World.ownsRow_nil _ _ _ _⟩, .refl _ _⟩
  have kW : K0 w W := hW.kk rfl
  have g1 : w.heap.size ≤ n1 := hW.fresh 0 rfl rfl
  have h0 := hW.cells 0 rfl
  refine ⟨w.heap.size, [], l.flatMap auC, own_none g1 h0, by rw [len_flat auC 16 l (fun y _ => auC_length y)], src_rowA (hR.k0 kW) auC_length (fun y => arr_one y 16) (by decide), by omega, by omega, kW.size, fun p' c' w' ho hg _ => ?_⟩
  rw [Nat.zero_add] at ho
  rw [Nat.zero_add]
  refine ⟨⟨(kp_grown hg).size, fun _ hx => by cases hx⟩, ⟨p', c', rfl, by simpa using ho⟩, kW.fresh (kp_grown hg) (fun j hj e => by simp only [Value.ownBlock, Option.some.injEq] at e; omega)⟩
theorem aequal_any (a b : List (Nat → Int)) (p : Option Addr) (c : Nat) (q : Option Addr) (d : Nat) (w : World) (hp : RowA auC 16 w p a) (hq : RowA auC 16 w q b) (ha : ∀ m ∈ a, BY m) (hb : ∀ m ∈ b, BY m) (hl : a.length ≤ 1099511627776) :
    Calls Tryz.prog 56 #[.slice p a.length c, .slice q b.length d] w fun e w' => e = .returned (.bool (decide (a.map auI = b.map auI))) ∧ K0 w w' := by
  refine vc_aequal p a.length c q b.length d w _ (bsp_intro (fun h => ?_) (fun h => ?_))
  · have : ¬ a.map auI = b.map auI := fun e => by
      have := congrArg List.length e
      simp only [List.length_map] at this
      rw [this] at h; simp at h
    rw [decide_eq_false this]; exact ⟨rfl, .refl _ _⟩
  have hn : a.length = b.length := by simp at h; omega
  refine ⟨fun vs w' => ∃ i : Nat, vs = [.int .i64 (i : Int)] ∧ i ≤ a.length ∧ (a.take i).map auI = (b.take i).map auI ∧ K0 w w',
    fun vs _ => (match vs with | .int _ x :: _ => a.length - x.toNat | _ => 0), ⟨0, rfl, by omega, by simp, .refl _ _⟩, ?_⟩
  rintro x w1 ⟨i, hv, hi, ht, k1⟩
  simp only [List.cons.injEq, Value.int.injEq, true_and, and_true] at hv
  subst hv
  refine bsp_intro (fun hlt => ?_) (fun hge => ?_)
  · have hlt : i < a.length := by simp at hlt; omega
    obtain ⟨z, b1, o1, hz, hp1, hc1⟩ := (hp.k0 k1).get hlt
    obtain ⟨y, b2, o2, hy, hp2, hc2⟩ := (hq.k0 k1).get (k := i) (by omega)
    rw [Int.toNat_natCast]
    refine nn_is hp1 ⟨⟨by omega, by omega⟩, z, fun W hW => hc1.k0 (hW.kk rfl), nn_is hp2 ⟨⟨by omega, by omega⟩, y, fun W hW => hc2.k0 (hW.kk rfl), _, auEq (ha z (List.mem_of_getElem? hz)) (hb y (List.mem_of_getElem? hy)), bsp_intro (fun hne => fun W hW => ?_) (fun heq => fun W hW => ?_)⟩⟩
    · have hne : ¬ auI z = auI y := by simpa using hne
      have : ¬ a.map auI = b.map auI := fun e => by
        have := congrArg (·[i]?) e
        simp only [List.getElem?_map, hz, hy, Option.map_some, Option.some.injEq] at this
        exact hne this
      rw [decide_eq_false this]; exact ⟨rfl, k1.trans (hW.kk rfl)⟩
    · have e : auI z = auI y := by simpa using heq
      refine ⟨⟨i + 1, by rw [inc64 (by omega)], hlt, ?_, k1.trans (hW.kk rfl)⟩, by rw [inc64 (by omega)]; simp only [Int.toNat_natCast]; omega⟩
      rw [take_snoc hz, take_snoc hy, List.map_append, List.map_append, ht]
      simp [e]
  · have hi : i = a.length := by simp at hge; omega
    subst hi
    rw [List.take_length, List.take_of_length_le (by omega)] at ht
    rw [decide_eq_true ht]; exact ⟨rfl, k1⟩

/-! ### Definitions -/
theorem dupE_step {m : List (List Int)} {i : Nat} {h : List Int} (hh : m[i]? = some h) : dupE (m.take i) (m.drop i) = if h ∈ m.take i then 7 else dupE (m.take (i + 1)) (m.drop (i + 1)) := by
  have hlt := (List.getElem?_eq_some_iff.1 hh).1
  have e : m.drop i = h :: m.drop (i + 1) := by
    rw [List.drop_eq_getElem_cons hlt]
    rw [List.getElem?_eq_getElem hlt] at hh
    cases hh; rfl
  rw [e, take_snoc hh]
  rfl
set_option maxHeartbeats 1000000 in
theorem dcheck_any (x : DX) (w : World) (hR : RowA auC 16 w x.p x.d.ms) (hc : x.d.ms.length ≤ x.c) (ho : x.d.OK) (hG : GW w) :
    Calls Tryz.prog 24 #[.agg (dfC x).toArray] w fun e w' => e = .returned (.int .i64 (dchk x.d)) ∧ K0 w w' := by
  obtain ⟨d, p, c⟩ := x
  obtain ⟨id, au, g, v, rm, md, ms, tx⟩ := d
  refine vc_dcheck id au g v rm md p ms.length c tx w _ (fun n1 W hW => ?_)
  have kW : K0 w W := hW.kk rfl
  have hb0 := hW.cells 0 rfl
  simp only at hR hc
  unfold dchk
  simp only
  refine ⟨(gcheck_any g W (hG.kp kW (fun h => h))).mono fun e w1 ⟨he, k1⟩ => ⟨_, he, .of_k0 k1, bsp_intro (fun h => ?_) (fun h => ?_)⟩⟩
  · rw [if_pos (by simpa using h)]; exact ⟨rfl, kW.trans k1⟩
  rw [if_neg (by simpa using h)]
  have k01 := kW.trans k1
  have hb1 := k1.blk hb0 (fun h => h)
  refine ⟨v, gimp_intro fun _ => cell_at hb1 rfl, bsp_intro (fun h => ?_) (fun h => ?_)⟩
  · rw [if_pos (by simp only [Bool.or_eq_true, decide_eq_true_eq] at h; omega)]; exact ⟨rfl, k01⟩
  rw [if_neg (by simp only [Bool.or_eq_false_iff, decide_eq_false_iff_not] at h; omega)]
  refine ⟨md, gimp_intro fun _ => cell_at hb1 rfl, p, ms.length, c, gimp_intro fun _ => cell_at hb1 rfl, tx, gimp_intro fun _ => cell_at hb1 rfl, bsp_intro (fun h => ?_) (fun h => ?_)⟩
  · have h : rm = true ∧ (md = true ∨ 0 < ms.length ∨ tx.size ≠ 0) := by
      rw [toList_nil] at h
      simp only [Bool.and_eq_true, Bool.or_eq_true, decide_eq_true_eq, Bool.not_eq_true', decide_eq_false_iff_not] at h
      obtain ⟨h1, (h2 | h2) | h2⟩ := h
      · exact ⟨h1, .inl h2⟩
      · exact ⟨h1, .inr (.inl (by omega))⟩
      · exact ⟨h1, .inr (.inr h2)⟩
    rw [if_pos h]; exact ⟨rfl, k01⟩
  have h3 : ¬ (rm = true ∧ (md = true ∨ 0 < ms.length ∨ tx.size ≠ 0)) := by
    rw [toList_nil] at h
    rintro ⟨h1, h2⟩
    rw [h1] at h
    simp only [Bool.true_and, Bool.or_eq_false_iff, decide_eq_false_iff_not, Bool.not_eq_false', decide_eq_true_eq] at h
    rcases h2 with h2 | h2 | h2
    · rw [h2] at h; cases h.1.1
    · have := h.1.2; omega
    · exact h2 h.2
  rw [if_neg h3]
  refine bsp_intro (fun h => ?_) (fun h => ?_)
  · rw [if_pos (by simp at h; omega)]; exact ⟨rfl, k01⟩
  have h8 : ¬ 8 < ms.length := by simp at h; omega
  rw [if_neg h8]
  refine ⟨fun vs w' => ∃ i : Nat, vs = [.int .i64 (i : Int)] ∧ i ≤ ms.length ∧ dupE ((ms.map auI).take i) ((ms.map auI).drop i) = dupE [] (ms.map auI) ∧ K0 w w',
    fun vs _ => (match vs with | .int _ x :: _ => ms.length - x.toNat | _ => 0), ⟨0, rfl, by omega, rfl, k01⟩, ?_⟩
  rintro x w2 ⟨i, hv, hi, hD, k2⟩ _
  simp only [List.cons.injEq, Value.int.injEq, true_and, and_true] at hv
  subst hv
  refine bsp_intro (fun hlt => ?_) (fun hge => ?_)
  · have hlt : i < ms.length := by simp at hlt; omega
    obtain ⟨z, b, o, hz, hp, hat⟩ := (hR.k0 k2).get hlt
    rw [Int.toNat_natCast]
    have hzm := List.mem_of_getElem? hz
    have hmz : (ms.map auI)[i]? = some (auI z) := by rw [List.getElem?_map, hz]; rfl
    rw [dupE_step hmz] at hD
    refine nn_is hp ⟨⟨by omega, by omega⟩, z, hat, fun n3 => ⟨⟨by omega, by omega⟩, fun W3 hW3 => ?_⟩⟩
    have k3 : K0 w W3 := hW3.k0 k2
    have htl : (ms.take i).length = i := by rw [List.length_take]; omega
    have hcc := acont_any (ms.take i) p c z W3 ((hR.k0 k3).take i) (fun m hm => ho.ms m (List.mem_of_mem_take hm)) (ho.ms z hzm) (by omega)
    rw [htl, List.map_take] at hcc
    refine ⟨hcc.mono fun e w4 ⟨he, k4⟩ => ⟨_, he, .of_k0 k4, bsp_intro (fun h => ?_) (fun h => ?_)⟩⟩
    · rw [if_pos (of_decide_eq_true h)] at hD
      rw [if_pos (by rw [← hD]; decide)]
      exact ⟨rfl, k3.trans k4⟩
    · rw [if_neg (of_decide_eq_false h)] at hD
      exact ⟨⟨i + 1, by rw [inc64 (by omega)], hlt, hD, k3.trans k4⟩, by rw [inc64 (by omega)]; simp only [Int.toNat_natCast]; omega⟩
  · have hi : i = ms.length := by simp at hge; omega
    subst hi
    have hz : dupE [] (ms.map auI) = 0 := by
      rw [← hD]
      have : (ms.map auI).drop ms.length = [] := List.drop_of_length_le (by simp)
      rw [this]; rfl
    rw [if_neg (by rw [hz]; decide)]
    refine bsp_intro (fun h => ?_) (fun h => ?_)
    · rw [if_pos (by simp at h; omega)]; exact ⟨rfl, k2⟩
    · rw [if_neg (by simp at h; omega)]; exact ⟨rfl, k2⟩
theorem dclone_any (x : DX) (w : World) (hR : RowA auC 16 w x.p x.d.ms) (hl : x.d.ms.length * 16 ≤ 140737488355328) :
    Calls Tryz.prog 53 #[.agg (dfC x).toArray] w fun e w' => (∃ (p' : Option Addr) (c' : Nat), e = .returned (.agg (dfC ⟨x.d, p', c'⟩).toArray) ∧ w'.ownsRow w.heap.size 53 16 (.slice p' x.d.ms.length c') x.d.ms.length (x.d.ms.flatMap auC)) ∧ K0 w w' := by
  obtain ⟨d, p, c⟩ := x
  obtain ⟨id, au, g, v, rm, md, ms, tx⟩ := d
  simp only at hR hl
  refine vc_dclone id au g v rm md p ms.length c tx w _ (fun n1 n2 W hW => ?_)
  have kW : K0 w W := hW.kk rfl
  refine ⟨(aclone_any ms p c W (hR.k0 kW) hl).mono fun e w1 ⟨⟨p', c', he, ho⟩, k1⟩ => ⟨_, _, _, he, .of_k0 k1, fun W2 hW2 => ?_⟩⟩
  refine ⟨⟨p', c', rfl, own_base (owns_kp ho hW2.kp (fun k hk ⟨x, hx, hm, e⟩ => ?_)) kW.size⟩, hW2.k0 (kW.trans k1)⟩
  have h1 := own_ge ho hk
  have b1 := block_lt (hW.cells 0 rfl)
  have b2 := block_lt (hW.cells 1 rfl)
  simp only at b1 b2
  simp only [List.mem_cons, List.not_mem_nil, or_false] at hx
  rcases hx with rfl | rfl
  · have e : n2 = k := e
    omega
  · have e : n1 = k := e
    omega
set_option maxHeartbeats 1000000 in
theorem dequal_any (x y : DX) (w : World) (hx : RowA auC 16 w x.p x.d.ms) (hy : RowA auC 16 w y.p y.d.ms) (ox : x.d.OK) (oy : y.d.OK) (hl : x.d.ms.length ≤ 1099511627776) :
    Calls Tryz.prog 27 #[.agg (dfC x).toArray, .agg (dfC y).toArray] w fun e w' => e = .returned (.bool (dEq x.d y.d)) ∧ K0 w w' := by
  obtain ⟨⟨id, au, g, v, rm, md, ms, tx⟩, p, c⟩ := x
  obtain ⟨⟨id2, au2, g2, v2, rm2, md2, ms2, tx2⟩, p2, c2⟩ := y
  simp only at hx hy hl
  refine vc_dequal id au g v rm md p ms.length c tx id2 au2 g2 v2 rm2 md2 p2 ms2.length c2 tx2 w _ (fun n1 n2 => ?_)
  refine ⟨_, idEqF ox.id oy.id, au, gimp_intro fun _ W hW => AtL_block (hW.cells 1 rfl) rfl, au2, gimp_intro fun _ W hW => AtL_block (hW.cells 0 rfl) rfl, _, gimp_intro fun _ => auEq ox.au oy.au, ?_⟩
  refine ⟨g, gimp_intro fun _ W hW => cell_at (hW.cells 1 rfl) rfl, g2, gimp_intro fun _ W hW => cell_at (hW.cells 0 rfl) rfl, v, gimp_intro fun _ W hW => cell_at (hW.cells 1 rfl) rfl, v2, gimp_intro fun _ W hW => cell_at (hW.cells 0 rfl) rfl, ?_⟩
  refine ⟨rm, gimp_intro fun _ W hW => cell_at (hW.cells 1 rfl) rfl, rm2, gimp_intro fun _ W hW => cell_at (hW.cells 0 rfl) rfl, md, gimp_intro fun _ W hW => cell_at (hW.cells 1 rfl) rfl, md2, gimp_intro fun _ W hW => cell_at (hW.cells 0 rfl) rfl, ?_⟩
  refine ⟨p, ms.length, c, gimp_intro fun _ W hW => cell_at (hW.cells 1 rfl) rfl, p2, ms2.length, c2, gimp_intro fun _ W hW => cell_at (hW.cells 0 rfl) rfl, fun W hW => ?_⟩
  have kW : K0 w W := hW.kk rfl
  have b1 := hW.cells 1 rfl
  have b0 := hW.cells 0 rfl
  rw [str_beq]
  refine bsp_intro (fun h => ?_) (fun h => ?_)
  · refine ⟨(aequal_any ms ms2 p c p2 c2 W (hx.k0 kW) (hy.k0 kW) ox.ms oy.ms hl).mono fun e w1 ⟨he, k1⟩ => ⟨_, he, .of_k0 k1, tx, gimp_intro fun _ => cell_at (k1.blk b1 (fun h => h)) rfl, tx2, gimp_intro fun _ => cell_at (k1.blk b0 (fun h => h)) rfl, ?_, kW.trans k1⟩⟩
    rw [str_beq]
    congr 2
    unfold dEq
    simp only
    simp only [Bool.and_eq_true, decide_eq_true_eq, beq_iff_eq] at h
    obtain ⟨⟨⟨⟨⟨h1, h2⟩, h3⟩, h4⟩, h5⟩, h6⟩ := h
    rw [decide_eq_true h1, decide_eq_true h2, decide_eq_true h3, h4, h5, h6]
    simp
  · refine ⟨.refl _ _, tx, trivial, tx2, trivial, ?_, kW⟩
    congr 2
    unfold dEq
    simp only
    rw [Bool.false_and]
    symm
    rw [Bool.eq_false_iff]
    intro hc
    simp only [Bool.and_eq_true] at hc
    obtain ⟨h1, h2, h3, h4, h5, h6, _⟩ := hc
    rw [h1, h2, h3, h4, h5, h6] at h
    simp at h

end Go.Proofs.YtkkfnlehlkiejaaGreatDoor

/- Chapter 21: texts, authors, authorities, definitions as arguments, with their sizes. No condition. -/
namespace Go.Proofs.YtkkfnlehlkiejaaGreatDoor
open Go.ChangeShapes Go.WideShapes Go.ChangeAt Go.RowKit Go.Deep

theorem okWide_arr {P : Program} {w : World} {r : Reach} {base n : Nat} {t e : TypeId} {v : Value} (ht : P.underlying t = some (.array n e)) (h : Value.okWide P w r base t v) : ∃ cs, v = .agg cs ∧ cs.size = P.cellsOf t := by
  unfold Value.okWide at h
  cases v <;> simp_all
theorem list_of {α : Type} [Inhabited α] {n : Nat} {Q : Nat → α → Prop} (h : ∀ i, i < n → ∃ y, Q i y) : ∃ l : List α, l.length = n ∧ ∀ i y, l[i]? = some y → Q i y := by
  have hex : ∃ g : Nat → α, ∀ i, i < n → Q i (g i) := by
    refine ⟨fun i => if h' : i < n then Classical.choose (h i h') else default, fun i hi => ?_⟩
    simp only [hi, dif_pos]
    exact Classical.choose_spec (h i hi)
  obtain ⟨g, hg⟩ := hex
  refine ⟨(List.range n).map g, by simp, fun i y hy => ?_⟩
  rw [List.getElem?_map] at hy
  rcases Nat.lt_or_ge i n with h' | h'
  · simp [h'] at hy
    subst hy
    exact hg i h'
  · simp [h'] at hy
instance : Inhabited Au := ⟨⟨⟨#[]⟩, fun _ => 0⟩⟩
section
variable {H : Type} {enc : TypeId × Value → H} {W : World} {base : Nat} {v : Value}
set_option maxRecDepth 100000 in
theorem openw_str (hv : Value.okWide Tryz.prog W .any base 9 v) (hr : Rw enc Tryz.prog W 9 v.cells.toList) : ∃ s : ByteArray, v = .string s ∧ s.size ≤ 4611686018427387904 := by
  obtain ⟨s, rfl⟩ := okWide_string Tryz.underlying9 hv
  obtain ⟨s', h, hz⟩ := hr.str Tryz.underlying9
  have h : [Value.string s] = [.string s'] := h
  simp only [List.cons.injEq, Value.string.injEq, and_true] at h
  subst h
  exact ⟨s, rfl, by omega⟩
set_option maxRecDepth 100000 in
theorem openw_au (hv : Value.okWide Tryz.prog W .any base 23 v) (hr : Rw enc Tryz.prog W 23 v.cells.toList) : ∃ a : Nat → Int, v = .agg (arrI .u8 a 16 0).toArray ∧ BY a := by
  obtain ⟨cs, rfl, _⟩ := okWide_arr Tryz.underlying23 hv
  obtain ⟨f, e0, hf⟩ := Rw.bytes hr Tryz.underlying23 Tryz.underlying5 (by kernel_rfl) (by kernel_rfl)
  obtain ⟨l⟩ := cs
  have e0 : l = arrI .u8 f 16 0 := e0
  exact ⟨f, by rw [e0], hf⟩
theorem cellsA21 : Tryz.prog.cellsOf 92 = 17 := by kernel_rfl
theorem cellsD21 : Tryz.prog.cellsOf 50 = 54 := by kernel_rfl
set_option maxRecDepth 100000 in
/-- Authorities that were read. -/
theorem open_As {cs : List Value} (hr : Rw enc Tryz.prog W 22 cs) : ∃ (p : Option Addr) (l : List Au) (c : Nat), cs = [.slice p l.length c] ∧ RowA atC 17 W p l ∧ ∀ x ∈ l, BY x.au := by
  obtain ⟨p, n, c, hcs, hnc, hby, _, hel⟩ := hr.slice Tryz.underlying22 (by rw [cellsA21]; decide)
  rw [cellsA21] at hel
  have key : ∀ i, i < n → ∃ y : Au, (∃ b o, p = some ⟨b, o, none⟩ ∧ AtL W b (o + i * 17) (atC y)) ∧ BY y.au := fun i hi => by
    obtain ⟨b, o, cs', hp, hl, hc, hrw⟩ := hel i hi
    obtain ⟨s, e0, _⟩ := Rw.str (cs := (cs'.drop 0).take 1) (hrw.field Tryz.underlying92 (i := 0) rfl) Tryz.underlying9
    obtain ⟨f, e1, hf⟩ := Rw.bytes (cs := (cs'.drop 1).take 16) (hrw.field Tryz.underlying92 (i := 1) rfl) Tryz.underlying23 Tryz.underlying5 (by kernel_rfl) (by kernel_rfl)
    have h2 : cs' = atC ⟨s, f⟩ := by
      rw [← List.take_append_drop 1 cs']
      have e0 : cs'.take 1 = [.string s] := e0
      rw [e0]
      have : (cs'.drop 1).take 16 = cs'.drop 1 := List.take_of_length_le (by rw [List.length_drop, hl]; omega)
      rw [this] at e1
      rw [e1]; rfl
    rw [h2] at hc
    exact ⟨⟨s, f⟩, ⟨b, o, hp, ⟨At_of _ _ fun j v hv => hc j v hv⟩⟩, hf⟩
  obtain ⟨l, hlen, hL⟩ := list_of key
  exact ⟨p, l, c, by rw [hlen]; exact hcs, fun k y hy => (hL k y hy).1, fun h hh => by
    obtain ⟨j, hj, e⟩ := List.getElem_of_mem hh
    exact (hL j h (by rw [List.getElem?_eq_getElem hj, e])).2⟩
set_option maxRecDepth 100000 in
theorem openw_As (hv : Value.okWide Tryz.prog W .any base 22 v) (hr : Rw enc Tryz.prog W 22 v.cells.toList) : ∃ (p : Option Addr) (l : List Au) (c : Nat), v = .slice p l.length c ∧ RowA atC 17 W p l ∧ ∀ x ∈ l, BY x.au := by
  obtain ⟨p, n, c, rfl⟩ := okWide_slice Tryz.underlying22 hv
  obtain ⟨p', L, c', h, h1, h2⟩ := open_As hr
  have h : [Value.slice p n c] = [.slice p' L.length c'] := h
  simp only [List.cons.injEq, and_true] at h
  exact ⟨p', L, c', h, h1, h2⟩
set_option maxRecDepth 100000 in
/-- Moderators that were read. -/
theorem open_Ms {cs : List Value} (hr : Rw enc Tryz.prog W 48 cs) : ∃ (p : Option Addr) (l : List (Nat → Int)) (c : Nat), cs = [.slice p l.length c] ∧ RowA auC 16 W p l ∧ (∀ m ∈ l, BY m) ∧ l.length ≤ c ∧ l.length ≤ 4611686018427387904 := by
  have c16 : Tryz.prog.cellsOf 23 = 16 := by kernel_rfl
  obtain ⟨p, n, c, hcs, hnc, hby, _, hel⟩ := hr.slice Tryz.underlying48 (by rw [c16]; decide)
  rw [c16] at hel
  rw [show Tryz.prog.bytesOf 23 = 16 by kernel_rfl] at hby
  have key : ∀ i, i < n → ∃ y : Nat → Int, (∃ b o, p = some ⟨b, o, none⟩ ∧ AtL W b (o + i * 16) (auC y)) ∧ BY y := fun i hi => by
    obtain ⟨b, o, cs', hp, hl, hc, hrw⟩ := hel i hi
    obtain ⟨f, e0, hf⟩ := Rw.bytes hrw Tryz.underlying23 Tryz.underlying5 (by kernel_rfl) (by kernel_rfl)
    subst e0
    exact ⟨f, ⟨b, o, hp, ⟨At_of _ _ fun j v hv => hc j v hv⟩⟩, hf⟩
  obtain ⟨l, hlen, hL⟩ := list_of key
  exact ⟨p, l, c, by rw [hlen]; exact hcs, fun k y hy => (hL k y hy).1, fun h hh => by
    obtain ⟨j, hj, e⟩ := List.getElem_of_mem hh
    exact (hL j h (by rw [List.getElem?_eq_getElem hj, e])).2, by omega, by omega⟩
theorem six' {l : List Value} {a b c d e f : Value} (hl : l.length = 6) (h0 : (l.drop 0).take 1 = [a]) (h1 : (l.drop 1).take 1 = [b]) (h2 : (l.drop 2).take 1 = [c]) (h3 : (l.drop 3).take 1 = [d]) (h4 : (l.drop 4).take 1 = [e]) (h5 : (l.drop 5).take 1 = [f]) : l = [a, b, c, d, e, f] := by
  match l, hl with
  | [x0, x1, x2, x3, x4, x5], _ => simp at h0 h1 h2 h3 h4 h5; simp [h0, h1, h2, h3, h4, h5]
/-- What is known of a definition that was read. -/
structure DfR (W : World) (x : DX) : Prop where
  row : RowA auC 16 W x.p x.d.ms
  ok : x.d.OK
  cap : x.d.ms.length ≤ x.c
  len : x.d.ms.length ≤ 4611686018427387904
theorem DfR.k0 {W W' : World} {x : DX} (h : DfR W x) (hk : K0 W W') : DfR W' x := ⟨h.row.k0 hk, h.ok, h.cap, h.len⟩
set_option maxRecDepth 100000 in
/-- The cells of a definition that was read. -/
theorem rw_D {l : List Value} (hl : l.length = 54) (hr : Rw enc Tryz.prog W 50 l) : ∃ x : DX, l = dfC x ∧ DfR W x := by
  obtain ⟨f, e0, hf⟩ := Rw.bytes (cs := (l.drop 0).take 32) (hr.field Tryz.underlying50 (i := 0) rfl) Tryz.underlying47 Tryz.underlying5 (by kernel_rfl) (by kernel_rfl)
  obtain ⟨g, e1, hg⟩ := Rw.bytes (cs := (l.drop 32).take 16) (hr.field Tryz.underlying50 (i := 1) rfl) Tryz.underlying23 Tryz.underlying5 (by kernel_rfl) (by kernel_rfl)
  obtain ⟨s2, e2, _⟩ := Rw.str (cs := (l.drop 48).take 1) (hr.field Tryz.underlying50 (i := 2) rfl) Tryz.underlying9
  obtain ⟨n3, e3, _⟩ := Rw.int64 (cs := (l.drop 49).take 1) (hr.field Tryz.underlying50 (i := 3) rfl) Tryz.underlying3
  obtain ⟨b4, e4⟩ := Rw.bool (cs := (l.drop 50).take 1) (hr.field Tryz.underlying50 (i := 4) rfl) Tryz.underlying4
  obtain ⟨b5, e5⟩ := Rw.bool (cs := (l.drop 51).take 1) (hr.field Tryz.underlying50 (i := 5) rfl) Tryz.underlying4
  obtain ⟨p6, m6, c6, e6, h6, o6, z6, z6'⟩ := open_Ms (cs := (l.drop 52).take 1) (hr.field Tryz.underlying50 (i := 6) rfl)
  obtain ⟨s7, e7, _⟩ := Rw.str (cs := (l.drop 53).take 1) (hr.field Tryz.underlying50 (i := 7) rfl) Tryz.underlying9
  have hd : ∀ k, l.drop (48 + k) = (l.drop 48).drop k := fun k => by rw [List.drop_drop]
  have e8 := six' (l := l.drop 48) (by simp [hl]) e2 (by rw [← hd]; exact e3) (by rw [← hd]; exact e4) (by rw [← hd]; exact e5) (by rw [← hd]; exact e6) (by rw [← hd]; exact e7)
  have hl2 : l = dfC ⟨⟨f, g, s2, n3, b4, b5, m6, s7⟩, p6, c6⟩ := by
    rw [← List.take_append_drop 32 l]
    have e0 : l.take 32 = arrI .u8 f 32 0 := e0
    rw [e0, ← List.take_append_drop 16 (l.drop 32), e1, List.drop_drop, e8]
    rfl
  exact ⟨⟨⟨f, g, s2, n3, b4, b5, m6, s7⟩, p6, c6⟩, hl2, ⟨h6, ⟨hf, hg, o6⟩, z6, z6'⟩⟩
set_option maxRecDepth 100000 in
theorem openw_D (hv : Value.okWide Tryz.prog W .any base 50 v) (hr : Rw enc Tryz.prog W 50 v.cells.toList) : ∃ x : DX, v = .agg (dfC x).toArray ∧ DfR W x := by
  obtain ⟨cs, rfl, hsz⟩ := okWide_struct Tryz.underlying50 hv
  rw [cellsD21] at hsz
  obtain ⟨l⟩ := cs
  obtain ⟨x, h1, h2⟩ := rw_D (l := l) hsz hr
  exact ⟨x, congrArg (fun l : List Value => Value.agg l.toArray) h1, h2⟩
end

end Go.Proofs.YtkkfnlehlkiejaaGreatDoor

/-
  DERIVED: THE SHELF's CONTRACTS AT THIS DUMP, IN PLAIN WORDS (tools/lay-plain.mjs out of 'TryzShelf.lean', which tools/lay-shelf.mjs wrote): THE SAME DECLARATIONS UNDER THE SAME NAMES: 'import', 'namespace', 'open', 'def', 'theorem' AND NOTHING ELSE: no command of the shelf's: FOR A HAND-IN. Each laying: the table of numbers ('.._ren') and one theorem, a field a fact of the dump's own or the kernel's comparison; each contract: ONE APPLICATION.
-/
namespace Go.Proofs
open Go.Shelf
def Tryz.laysSlF06_f71_ren : Go.Shelf.Ren := ⟨fun | 6 => 71 | 15 => 94 | 14 => 93 | 28 => 116 | 29 => 117 | 20 => 108 | 21 => 109 | 22 => 110 | 23 => 111 | 24 => 112 | 25 => 113 | 26 => 114 | 27 => 115 | 46 => 128 | 47 => 129 | 48 => 130 | 49 => 131 | 50 => 132 | 57 => 138 | n => n, fun | 22 => 68 | 24 => 56 | 25 => 139 | 3 => 3 | 39 => 172 | 0 => 0 | 53 => 193 | 55 => 195 | 4 => 4 | 46 => 186 | 45 => 185 | 50 => 190 | 5 => 5 | 9 => 9 | 66 => 201 | 70 => 205 | 76 => 208 | 77 => 209 | n => n, fun | n => n⟩
theorem Tryz.laysSlF06_f71 : Go.Proofs.SlLaysF0.n6 Tryz.prog Tryz.laysSlF06_f71_ren := {
  mixed := by kernel_rfl
  f6 := ⟨Tryz.f71.name, by decide, Tryz.func71.trans (congrArg some (by kernel_rfl))⟩
  f14 := ⟨Tryz.f93.name, by decide, Tryz.func93.trans (congrArg some (by kernel_rfl))⟩
  f15 := Tryz.func94.trans (congrArg some (by kernel_rfl))
  f20 := ⟨Tryz.f108.name, by decide, Tryz.func108.trans (congrArg some (by kernel_rfl))⟩
  f21 := ⟨Tryz.f109.name, by decide, Tryz.func109.trans (congrArg some (by kernel_rfl))⟩
  f22 := ⟨Tryz.f110.name, by decide, Tryz.func110.trans (congrArg some (by kernel_rfl))⟩
  f23 := ⟨Tryz.f111.name, by decide, Tryz.func111.trans (congrArg some (by kernel_rfl))⟩
  f24 := ⟨Tryz.f112.name, by decide, Tryz.func112.trans (congrArg some (by kernel_rfl))⟩
  f25 := ⟨Tryz.f113.name, by decide, Tryz.func113.trans (congrArg some (by kernel_rfl))⟩
  f26 := ⟨Tryz.f114.name, by decide, Tryz.func114.trans (congrArg some (by kernel_rfl))⟩
  f27 := ⟨Tryz.f115.name, by decide, Tryz.func115.trans (congrArg some (by kernel_rfl))⟩
  f28 := Tryz.func116.trans (congrArg some (by kernel_rfl))
  f29 := Tryz.func117.trans (congrArg some (by kernel_rfl))
  f46 := ⟨Tryz.f128.name, by decide, Tryz.func128.trans (congrArg some (by kernel_rfl))⟩
  f47 := Tryz.func129.trans (congrArg some (by kernel_rfl))
  f48 := Tryz.func130.trans (congrArg some (by kernel_rfl))
  f49 := ⟨Tryz.f131.name, by decide, Tryz.func131.trans (congrArg some (by kernel_rfl))⟩
  f50 := ⟨Tryz.f132.name, by decide, Tryz.func132.trans (congrArg some (by kernel_rfl))⟩
  f57 := ⟨Tryz.f138.name, by decide, Tryz.func138.trans (congrArg some (by kernel_rfl))⟩
  t0 := Tryz.underlying0
  a0 := Tryz.isAgg0
  z0 := Tryz.sizeOf0
  v0 := Tryz.zeroValue0
  t3 := Tryz.underlying3
  a3 := Tryz.isAgg3
  z3 := Tryz.sizeOf3
  v3 := Tryz.zeroValue3
  t4 := Tryz.underlying4
  a4 := Tryz.isAgg4
  z4 := Tryz.sizeOf4
  v4 := Tryz.zeroValue4
  t5 := Tryz.underlying5
  a5 := Tryz.isAgg5
  z5 := Tryz.sizeOf5
  v5 := Tryz.zeroValue5
  t9 := Tryz.underlying9
  a9 := Tryz.isAgg9
  z9 := Tryz.sizeOf9
  v9 := Tryz.zeroValue9
  t22 := Tryz.underlying68
  a22 := Tryz.isAgg68
  z22 := Tryz.sizeOf68
  v22 := Tryz.zeroValue68
  t25 := Tryz.underlying139
  a25 := Tryz.isAgg139
  z25 := Tryz.sizeOf139
  v25 := Tryz.zeroValue139
  t39 := Tryz.underlying172
  a39 := Tryz.isAgg172
  z39 := Tryz.sizeOf172
  v39 := Tryz.zeroValue172
  t45 := Tryz.underlying185
  a45 := Tryz.isAgg185
  z45 := Tryz.sizeOf185
  v45 := Tryz.zeroValue185
  t46 := Tryz.underlying186
  a46 := Tryz.isAgg186
  z46 := Tryz.sizeOf186
  v46 := Tryz.zeroValue186
  t50 := Tryz.underlying190
  a50 := Tryz.isAgg190
  z50 := Tryz.sizeOf190
  v50 := Tryz.zeroValue190
  t53 := Tryz.underlying193
  a53 := Tryz.isAgg193
  z53 := Tryz.sizeOf193
  v53 := Tryz.zeroValue193
  t55 := Tryz.underlying195
  a55 := Tryz.isAgg195
  z55 := Tryz.sizeOf195
  v55 := Tryz.zeroValue195
  t66 := Tryz.underlying201
  a66 := Tryz.isAgg201
  z66 := Tryz.sizeOf201
  v66 := Tryz.zeroValue201
  t70 := Tryz.underlying205
  a70 := Tryz.isAgg205
  z70 := Tryz.sizeOf205
  v70 := Tryz.zeroValue205
  t76 := Tryz.underlying208
  a76 := Tryz.isAgg208
  z76 := Tryz.sizeOf208
  v76 := Tryz.zeroValue208
  t77 := Tryz.underlying209
  a77 := Tryz.isAgg209
  z77 := Tryz.sizeOf209
  v77 := Tryz.zeroValue209 }
open Go.RowKit Go.Lib in
/-- slices.SortFunc at no element. -/
theorem Tryz.slices_SortFunc_none71 (p : Option Addr) (cap : Nat) (fv : Value) (w : World) :
    Calls Tryz.prog 71 #[.slice p 0 cap, fv] w fun e w' => e = .returned (.tuple #[]) ∧ w' = w := AnyF.slices_SortFunc_none Tryz.laysSlF06_f71 p cap fv w
end Go.Proofs

/- The formulas of functions by the symbolic evaluator, and that each gives the call's contract. Written by a program (gen.py). No condition. -/
namespace Go.Proofs.YtkkfnlehlkiejaaGreatDoor
set_option maxRecDepth 100000
set_option linter.unusedVariables false

def VC_mcompare (a : Array Value) (b : Array Value) (w : World) (R : Ending → World → Prop) : Prop :=
 ∀ (n : Nat) (w1 : World),
 NewB w (Obj.cells a 52) n w1 →
 ∀ (n_1 : Nat) (w1_1 : World),
 NewB w1 (Obj.cells b 52) n_1 w1_1 →
 CallsS Tryz.prog 119 #[Value.slice (some (Addr.mk n 0 none)) 32 32, Value.slice (some (Addr.mk n_1 0 none)) 32 32]
 w1_1.drew fun (e : Ending) (w' : World) =>
 ∃ (x : Int), e = Ending.returned (Value.int IntKind.i64 x) ∧ R (Ending.returned (Value.int IntKind.i64 x)) w'
theorem vc_mcompare (a : Array Value) (b : Array Value) (w : World) (R : Ending → World → Prop) (h : VC_mcompare a b w R) : Calls Tryz.prog 97 ([Value.agg
    a,
  Value.agg b] : List Value).toArray w R := by
  have e : execR { P := Tryz.prog, loops := [], pur := pur1, tails := [(1, 2)], joins := [], boxes := [] } Tryz.f97.results.toList R (Tryz.f97.body.getD .skip) (initF [Value.agg
    a,
  Value.agg
    b] (Tryz.f97.ntmps - ([Value.agg a, Value.agg b] : List Value).length)) w = VC_mcompare a b w R := by kernel_rfl
  have hb : Tryz.f97.body = some (Tryz.f97.body.getD .skip) := by kernel_rfl
  exact calls_of_exec' (P := Tryz.prog) (fn := Tryz.f97) (c := Tryz.f97.body.getD .skip) (args := [Value.agg a,
  Value.agg b]) (w := w) (R := R) pur1_ok Tryz.func97 hb e h

def VC_cmpOr (p : Option Addr) (n : Nat) (c : Nat) (w : World) (R : Ending → World → Prop) : Prop :=
 ∃ (I : List Value → World → Prop),
 ∃ (m : List Value → World → Nat),
 I [Value.int IntKind.i64 0] w ∧
 ∀ (x : Int) (w' : World),
 I [Value.int IntKind.i64 x] w' →
 bsp (decide (x < (↑n : Int)))
 (nn true p fun (b o : Nat) =>
 (0 ≤ x ∧ x < (↑n : Int)) ∧
 ∃ (x_1 : Int),
 w'.cell? (Addr.mk b (o + x.toNat) none) = some (Value.int IntKind.i64 x_1) ∧
 bsp (x_1 != 0) (R (Ending.returned (Value.int IntKind.i64 x_1)) w')
 (I [Value.int IntKind.i64 (IntKind.i64.wrap (x + 1))] w' ∧
 m [Value.int IntKind.i64 (IntKind.i64.wrap (x + 1))] w' < m [Value.int IntKind.i64 x] w'))
 (R (Ending.returned (Value.int IntKind.i64 0)) w')
theorem vc_cmpOr (p : Option Addr) (n : Nat) (c : Nat) (w : World) (R : Ending → World → Prop) (h : VC_cmpOr p n c w R) : Calls Tryz.prog 73 ([Value.slice
    p n c] : List Value).toArray w R := by
  have e : execR { P := Tryz.prog, loops := [(3, [(8, Ck.int IntKind.i64)])], pur := pur1, tails := [], joins := [], boxes := [] } Tryz.f73.results.toList R (Tryz.f73.body.getD .skip) (initF [Value.slice
    p n c] (Tryz.f73.ntmps - ([Value.slice p n c] : List Value).length)) w = VC_cmpOr p n c w R := by kernel_rfl
  have hb : Tryz.f73.body = some (Tryz.f73.body.getD .skip) := by kernel_rfl
  exact calls_of_exec' (P := Tryz.prog) (fn := Tryz.f73) (c := Tryz.f73.body.getD .skip) (args := [Value.slice p n
    c]) (w := w) (R := R) pur1_ok Tryz.func73 hb e h

def VC_dprec (a : Array Value) (b : Array Value) (w : World) (R : Ending → World → Prop) : Prop :=
 ∀ (n : Nat) (w1 : World),
 NewB w (Obj.cells a 56) n w1 →
 ∀ (n_1 : Nat) (w1_1 : World),
 NewB w1 (Obj.cells b 56) n_1 w1_1 →
 ∃ (S : World → Prop),
 S w1_1.drew ∧
 ∃ (x : Int),
 (∀ (w' : World), S w' → w'.cell? (Addr.mk n_1 (0 + 49) none) = some (Value.int IntKind.i64 x)) ∧
 ∃ (x_1 : Int),
 (∀ (w' : World), S w' → w'.cell? (Addr.mk n (0 + 49) none) = some (Value.int IntKind.i64 x_1)) ∧
 ∃ (f : Nat → Int),
 (∀ (w' : World),
 S w' →
 AtL w' n 0
 (arrI IntKind.u8 f 32 0)) ∧
 ∃ (f_1 : Nat → Int),
 (∀ (w' : World),
 S w' →
 AtL w' n_1 0
 (arrI IntKind.u8 f_1 32 0)) ∧
 CallsS Tryz.prog 96 #[Value.int IntKind.i64 x, Value.int IntKind.i64 x_1] w1_1.drew
 fun (e : Ending) (w' : World) =>
 ∃ (x : Int),
 e = Ending.returned (Value.int IntKind.i64 x) ∧
 S w' ∧
 CallsS Tryz.prog 97
 #[Value.agg
 (arrI IntKind.u8 f 32 0).toArray,
 Value.agg
 (arrI IntKind.u8 f_1 32 0).toArray]
 w' fun (e : Ending) (w' : World) =>
 ∃ (x_2 : Int),
 e = Ending.returned (Value.int IntKind.i64 x_2) ∧
 ∀ (n : Nat) (w1 : World),
 NewB w' (Obj.cells #[Value.int IntKind.i64 x, Value.int IntKind.i64 x_2] 3) n w1 →
 CallsS Tryz.prog 73 #[Value.slice (some (Addr.mk n 0 none)) 2 2] w1
 fun (e : Ending) (w' : World) =>
 ∃ (x : Int),
 e = Ending.returned (Value.int IntKind.i64 x) ∧
 R (Ending.returned (Value.int IntKind.i64 x)) w'
theorem vc_dprec (a : Array Value) (b : Array Value) (w : World) (R : Ending → World → Prop) (h : VC_dprec a b w R) : Calls Tryz.prog 75 ([Value.agg
    a,
  Value.agg b] : List Value).toArray w R := by
  have e : execR { P := Tryz.prog, loops := [], pur := pur1, tails := [(1, 4)], joins := [], boxes := [] } Tryz.f75.results.toList R (Tryz.f75.body.getD .skip) (initF [Value.agg
    a,
  Value.agg
    b] (Tryz.f75.ntmps - ([Value.agg a, Value.agg b] : List Value).length)) w = VC_dprec a b w R := by kernel_rfl
  have hb : Tryz.f75.body = some (Tryz.f75.body.getD .skip) := by kernel_rfl
  exact calls_of_exec' (P := Tryz.prog) (fn := Tryz.f75) (c := Tryz.f75.body.getD .skip) (args := [Value.agg a,
  Value.agg b]) (w := w) (R := R) pur1_ok Tryz.func75 hb e h

def VC_pcmp (a : Array Value) (b : Array Value) (w : World) (R : Ending → World → Prop) : Prop :=
 ∀ (n : Nat) (w1 : World),
 NewB w (Obj.cells a 56) n w1 →
 ∀ (n_1 : Nat) (w1_1 : World),
 NewB w1 (Obj.cells b 56) n_1 w1_1 →
 ∃ (S : World → Prop),
 S w1_1.drew ∧
 ∃ (x : ByteArray),
 (∀ (w' : World), S w' → w'.cell? (Addr.mk n (0 + 48) none) = some (Value.string x)) ∧
 ∃ (x_1 : ByteArray),
 (∀ (w' : World), S w' → w'.cell? (Addr.mk n_1 (0 + 48) none) = some (Value.string x_1)) ∧
 ∃ (f : Nat → Int),
 ∃ (f_1 : Nat → Int),
 ∃ (x_2 : ByteArray),
 ∃ (x_3 : Int),
 ∃ (x_4 : Bool),
 ∃ (x_5 : Bool),
 ∃ (p : Option Addr),
 ∃ (n_2 : Nat),
 ∃ (c : Nat),
 ∃ (x_6 : ByteArray),
 (∀ (w' : World),
 S w' →
 AtL w' n 0
 (arrI IntKind.u8 f 32 0 ++ (arrI IntKind.u8 f_1 16 0 ++ [Value.string x_2, Value.int IntKind.i64 x_3, Value.bool x_4, Value.bool x_5,
 Value.slice p n_2 c, Value.string x_6]))) ∧
 ∃ (f_2 : Nat → Int),
 ∃ (f_3 : Nat → Int),
 ∃ (x_7 : ByteArray),
 ∃ (x_8 : Int),
 ∃ (x_9 : Bool),
 ∃ (x_10 : Bool),
 ∃ (p_1 : Option Addr),
 ∃ (n : Nat),
 ∃ (c_1 : Nat),
 ∃ (x_11 : ByteArray),
 (∀ (w' : World),
 S w' →
 AtL w' n_1 0
 (arrI IntKind.u8 f_2 32 0 ++ (arrI IntKind.u8 f_3 16 0 ++ [Value.string x_7,
 Value.int IntKind.i64 x_8, Value.bool x_9, Value.bool x_10, Value.slice p_1 n c_1,
 Value.string x_11]))) ∧
 CallsS Tryz.prog 74 #[Value.string x, Value.string x_1] w1_1.drew
 fun (e : Ending) (w' : World) =>
 ∃ (x : Int),
 e = Ending.returned (Value.int IntKind.i64 x) ∧
 S w' ∧
 CallsS Tryz.prog 75
 #[Value.agg
 (arrI IntKind.u8 f 32 0 ++ (arrI IntKind.u8 f_1 16 0 ++ [Value.string x_2,
 Value.int IntKind.i64 x_3, Value.bool x_4, Value.bool x_5, Value.slice p n_2 c,
 Value.string x_6])).toArray,
 Value.agg
 (arrI IntKind.u8 f_2 32 0 ++ (arrI IntKind.u8 f_3 16 0 ++ [Value.string x_7,
 Value.int IntKind.i64 x_8, Value.bool x_9, Value.bool x_10,
 Value.slice p_1 n c_1, Value.string x_11])).toArray]
 w' fun (e : Ending) (w' : World) =>
 ∃ (x_12 : Int),
 e = Ending.returned (Value.int IntKind.i64 x_12) ∧
 ∀ (n : Nat) (w1 : World),
 NewB w' (Obj.cells #[Value.int IntKind.i64 x, Value.int IntKind.i64 x_12] 3) n
 w1 →
 CallsS Tryz.prog 73 #[Value.slice (some (Addr.mk n 0 none)) 2 2] w1
 fun (e : Ending) (w' : World) =>
 ∃ (x : Int),
 e = Ending.returned (Value.int IntKind.i64 x) ∧
 R (Ending.returned (Value.int IntKind.i64 x)) w'
theorem vc_pcmp (a : Array Value) (b : Array Value) (w : World) (R : Ending → World → Prop) (h : VC_pcmp a b w R) : Calls Tryz.prog 72 ([Value.agg
    a,
  Value.agg b] : List Value).toArray w R := by
  have e : execR { P := Tryz.prog, loops := [], pur := pur1, tails := [(1, 4)], joins := [], boxes := [] } Tryz.f72.results.toList R (Tryz.f72.body.getD .skip) (initF [Value.agg
    a,
  Value.agg b] (Tryz.f72.ntmps - ([Value.agg a, Value.agg b] : List Value).length)) w = VC_pcmp a b w R := by kernel_rfl
  have hb : Tryz.f72.body = some (Tryz.f72.body.getD .skip) := by kernel_rfl
  exact calls_of_exec' (P := Tryz.prog) (fn := Tryz.f72) (c := Tryz.f72.body.getD .skip) (args := [Value.agg a,
  Value.agg b]) (w := w) (R := R) pur1_ok Tryz.func72 hb e h

end Go.Proofs.YtkkfnlehlkiejaaGreatDoor

/- The formulas of functions by the symbolic evaluator, and that each gives the call's contract. Written by a program (gen.py). No condition. -/
namespace Go.Proofs.YtkkfnlehlkiejaaGreatDoor
set_option maxRecDepth 100000
set_option linter.unusedVariables false

def VC_nanS (a : ByteArray) (w : World) (R : Ending → World → Prop) : Prop :=
 R (Ending.returned (Value.bool !a.toList == a.toList)) w
theorem vc_nanS (a : ByteArray) (w : World) (R : Ending → World → Prop) (h : VC_nanS a w R) : Calls Tryz.prog 95 ([Value.string
    a] : List Value).toArray w R := by
  have e : execR { P := Tryz.prog, loops := [], pur := pur1, tails := [], joins := [], boxes := [] } Tryz.f95.results.toList R (Tryz.f95.body.getD .skip) (initF [Value.string
    a] (Tryz.f95.ntmps - ([Value.string a] : List Value).length)) w = VC_nanS a w R := by kernel_rfl
  have hb : Tryz.f95.body = some (Tryz.f95.body.getD .skip) := by kernel_rfl
  exact calls_of_exec' (P := Tryz.prog) (fn := Tryz.f95) (c := Tryz.f95.body.getD .skip) (args := [Value.string
    a]) (w := w) (R := R) pur1_ok Tryz.func95 hb e h

def VC_cmpS (a : ByteArray) (b : ByteArray) (w : World) (R : Ending → World → Prop) : Prop :=
 CallsS Tryz.prog 95 #[Value.string a] w fun (e : Ending) (w' : World) =>
 ∃ (x : Bool),
 e = Ending.returned (Value.bool x) ∧
 CallsS Tryz.prog 95 #[Value.string b] w' fun (e : Ending) (w' : World) =>
 ∃ (x_1 : Bool),
 e = Ending.returned (Value.bool x_1) ∧
 bsp x
 (bsp x_1 (R (Ending.returned (Value.int IntKind.i64 0)) w')
 (R (Ending.returned (Value.int IntKind.i64 (-1))) w'))
 (bsp x_1 (R (Ending.returned (Value.int IntKind.i64 1)) w')
 (bsp (Op.bytesLess a.toList b.toList) (R (Ending.returned (Value.int IntKind.i64 (-1))) w')
 (bsp (!(Op.bytesLess a.toList b.toList || a.toList == b.toList))
 (R (Ending.returned (Value.int IntKind.i64 1)) w') (R (Ending.returned (Value.int IntKind.i64 0)) w'))))
theorem vc_cmpS (a : ByteArray) (b : ByteArray) (w : World) (R : Ending → World → Prop) (h : VC_cmpS a b w R) : Calls Tryz.prog 74 ([Value.string
    a,
  Value.string b] : List Value).toArray w R := by
  have e : execR { P := Tryz.prog, loops := [], pur := pur1, tails := [], joins := [], boxes := [] } Tryz.f74.results.toList R (Tryz.f74.body.getD .skip) (initF [Value.string
    a,
  Value.string
    b] (Tryz.f74.ntmps - ([Value.string a, Value.string b] : List Value).length)) w = VC_cmpS a b w R := by kernel_rfl
  have hb : Tryz.f74.body = some (Tryz.f74.body.getD .skip) := by kernel_rfl
  exact calls_of_exec' (P := Tryz.prog) (fn := Tryz.f74) (c := Tryz.f74.body.getD .skip) (args := [Value.string a,
  Value.string b]) (w := w) (R := R) pur1_ok Tryz.func74 hb e h

end Go.Proofs.YtkkfnlehlkiejaaGreatDoor

/- Chapter 21: definitions compared and sorted. -/
namespace Go.Proofs.YtkkfnlehlkiejaaGreatDoor
open Go.RowKit Go.Sort

theorem bytesOf_idB (f : Nat → Int) : Lib.bytesOf (idI f) = idB f := rfl
set_option maxRecDepth 100000 in
theorem bcompare_run {w : World} {b b' o o' : Nat} {f g : Nat → Int} (h : ∀ j, j < 32 → w.cell? ⟨b, o + j, none⟩ = some (.int .u8 (f j))) (h' : ∀ j, j < 32 → w.cell? ⟨b', o' + j, none⟩ = some (.int .u8 (g j))) (c c' : Nat) :
    (Extern.BytealgCompare.compare #[.slice (some ⟨b, o, none⟩) 32 c, .slice (some ⟨b', o', none⟩) 32 c']).run Tryz.prog w = .ok (.int .i64 (Lib.compareBytes (idB f) (idB g))) w := by
  have key : ∀ (b o : Nat) (f : Nat → Int), (∀ j, j < 32 → w.cell? ⟨b, o + j, none⟩ = some (.int .u8 (f j))) → (Extern.Bytes.loadBytes ⟨b, o, none⟩ 32 .empty).run Tryz.prog w = .ok ⟨(idB f).toArray⟩ w := fun b o f h => by
    have := Lib.run_loadBytesX (P := Tryz.prog) w (idI f) ⟨b, o, none⟩ .empty (fun j x hj => by
      have hlt : j < 32 := by have := (List.getElem?_eq_some_iff.1 hj).1; simpa [idI] using this
      rw [idI_get f hlt] at hj
      simp at hj
      subst hj
      have e : (⟨b, o, none⟩ : Addr).add j = ⟨b, o + j, none⟩ := by
        unfold Addr.add
        simp
      rw [e]
      exact h j hlt)
    have hl : (idI f).length = 32 := by simp [idI]
    rw [hl, bytesOf_idB] at this
    rw [this]
    generalize idB f = l
    have e : ByteArray.empty.data ++ l.toArray = l.toArray := by
      show (#[] : Array UInt8) ++ l.toArray = l.toArray
      simp
    rw [e]
  change Sem.run Tryz.prog (do pure (goInt (Extern.BytealgCompare.cmp (← Extern.Bytes.bytesOf (.slice (some ⟨b, o, none⟩) 32 c)) (← Extern.Bytes.bytesOf (.slice (some ⟨b', o', none⟩) 32 c'))))) w = _
  simp only [Extern.Bytes.bytesOf, Sem.run_bind, key b o f h, key b' o' g h', Sem.run_pure, Result.andThen]
  rw [Lib.cmp_eq]
  rfl
set_option maxHeartbeats 1000000 in
set_option maxRecDepth 100000 in
theorem bcompare_any {w : World} {b b' o o' : Nat} {f g : Nat → Int} (h : ∀ j, j < 32 → w.cell? ⟨b, o + j, none⟩ = some (.int .u8 (f j))) (h' : ∀ j, j < 32 → w.cell? ⟨b', o' + j, none⟩ = some (.int .u8 (g j))) (c c' : Nat) :
    Calls Tryz.prog 119 #[.slice (some ⟨b, o, none⟩) 32 c, .slice (some ⟨b', o', none⟩) 32 c'] w fun e w' => e = .returned (.int .i64 (Lib.compareBytes (idB f) (idB g))) ∧ w' = w := by
  have hr := bcompare_run h h' c c'
  generalize Lib.compareBytes (idB f) (idB g) = r at hr ⊢
  clear h h'
  go_enter Tryz.func119, Tryz.ntmps119
  go_wp2
  rw [run_callFunc_extern Tryz.func133 (by kernel_rfl) (by kernel_rfl) (by kernel_rfl) (e := Extern.BytealgCompare.compare) (by kernel_rfl), hr]
  simp only [Result.andThen]
  rw [Oper.upon_value]
  go_wp2
  go_ret
  exact ⟨rfl, rfl⟩

theorem mcompare_any (f g : Nat → Int) (w : World) : Calls Tryz.prog 97 #[.agg (arrI .u8 f 32 0).toArray, .agg (arrI .u8 g 32 0).toArray] w fun e w' => e = .returned (.int .i64 (Lib.compareBytes (idB f) (idB g))) ∧ K0 w w' ∧ w.drawn ≤ w'.drawn := by
  refine vc_mcompare _ _ w _ ?_
  intro n w1 hn n1 w2 hn1
  have b1 := (hn1.kp (fun _ => False)).blk hn.block (fun h => h)
  have b2 := hn1.block
  have hd : w2.drawn = w.drawn := by rw [hn1.hw, hn.hw]; rfl
  refine ⟨(bcompare_any (w := w2.drew) (f := f) (g := g) (fun j hj => cell_at (blk_drew b1) ?_) (fun j hj => cell_at (blk_drew b2) ?_) 32 32).mono fun e w' ⟨he, hw⟩ => ⟨_, he, rfl, ?_, ?_⟩⟩
  · rw [Nat.zero_add]; simpa using arrI_get .u8 f 32 0 j hj
  · rw [Nat.zero_add]; simpa using arrI_get .u8 g 32 0 j hj
  · rw [hw]; exact ((hn.kp _).trans (hn1.kp _)).drew
  · rw [hw]; show w.drawn ≤ w2.drawn + 1; omega
theorem cmpOr_any (a b : Int) (n c : Nat) (t : TypeId) (w : World) (hb : w.heap[n]? = some (.cells #[.int .i64 a, .int .i64 b] t (0, 0))) : Calls Tryz.prog 73 #[.slice (some ⟨n, 0, none⟩) 2 c] w fun e w' => e = .returned (.int .i64 (if a ≠ 0 then a else b)) ∧ w' = w := by
  refine vc_cmpOr (some ⟨n, 0, none⟩) 2 c w _ ?_
  refine count1 2 (by decide) (fun k w' => (0 < k → a = 0) ∧ (1 < k → b = 0) ∧ w' = w) ⟨fun h => by omega, fun h => by omega, rfl⟩ ?_
  rintro I m k w' hk ⟨h0, h1, rfl⟩ next
  refine bsp_intro (fun hlt => ?_) (fun hge => ?_)
  · have hlt : k < 2 := by simp at hlt; omega
    show (0 ≤ (k : Int) ∧ (k : Int) < ((2 : Nat) : Int)) ∧ _
    rw [Int.toNat_natCast]
    obtain rfl | rfl : k = 0 ∨ k = 1 := by omega
    · refine ⟨by omega, a, cell_at hb rfl, bsp_intro (fun h => ⟨?_, rfl⟩) (fun h => next hlt _ ⟨fun _ => ?_, fun h => by omega, rfl⟩)⟩
      · have h : a ≠ 0 := by simpa using h
        rw [if_pos h]
      · simpa using h
    · have ha := h0 (by omega)
      refine ⟨by omega, b, cell_at hb rfl, bsp_intro (fun h => ⟨?_, rfl⟩) (fun h => next hlt _ ⟨fun _ => ha, fun _ => by simpa using h, rfl⟩)⟩
      rw [if_neg (by omega)]
  · have : k = 2 := by simp at hge; omega
    subst this
    rw [if_neg (by have := h0 (by omega); omega), h1 (by omega)]
    exact ⟨rfl, rfl⟩

/-! ### Texts compared -/
theorem bl_cb : ∀ a b : List UInt8, Op.bytesLess a b = decide (Lib.compareBytes a b < 0)
  | [], [] => rfl
  | [], _ :: _ => rfl
  | _ :: _, [] => rfl
  | a :: l, b :: m => by
    unfold Op.bytesLess Lib.compareBytes
    by_cases h1 : a < b
    · simp [h1]
    · by_cases h2 : b < a
      · have h3 : a ≠ b := fun e => by subst e; exact h1 h2
        simp [h1, h2, h3]
      · have h3 : a = b := UInt8.le_antisymm (UInt8.not_lt.1 h2) (UInt8.not_lt.1 h1)
        subst h3
        simp [bl_cb l m]
theorem nanS_any (a : ByteArray) (w : World) : Calls Tryz.prog 95 #[.string a] w fun e w' => e = .returned (.bool false) ∧ w' = w := vc_nanS a w _ ⟨by simp, rfl⟩
theorem cmpS_any (a b : ByteArray) (w : World) : Calls Tryz.prog 74 #[.string a, .string b] w fun e w' => e = .returned (.int .i64 (Lib.compareBytes a.data.toList b.data.toList)) ∧ w' = w := by
  refine vc_cmpS a b w _ ⟨(nanS_any a w).mono fun e w1 ⟨he, hw⟩ => ⟨_, he, ?_⟩⟩
  subst hw
  refine ⟨(nanS_any b w1).mono fun e w2 ⟨he, hw⟩ => ⟨_, he, ?_⟩⟩
  subst hw
  have e1 : a.toList = a.data.toList := ByteArray.toList_eq a
  have e2 : b.toList = b.data.toList := ByteArray.toList_eq b
  rw [e1, e2, bl_cb]
  have ha := cb_anti a.data.toList b.data.toList
  have hcases : Lib.compareBytes a.data.toList b.data.toList = -1 ∨ Lib.compareBytes a.data.toList b.data.toList = 0 ∨ Lib.compareBytes a.data.toList b.data.toList = 1 := by
    have key : ∀ l m : List UInt8, Lib.compareBytes l m = -1 ∨ Lib.compareBytes l m = 0 ∨ Lib.compareBytes l m = 1 := by
      intro l
      induction l with
      | nil => intro m; cases m <;> simp [Lib.compareBytes]
      | cons x l ih =>
        intro m
        cases m with
        | nil => simp [Lib.compareBytes]
        | cons y m =>
          unfold Lib.compareBytes
          split
          · exact .inl rfl
          split
          · exact .inr (.inr rfl)
          · exact ih m
    exact key _ _
  refine bsp_intro (fun h => by cases h) (fun _ => bsp_intro (fun h => by cases h) (fun _ => bsp_intro (fun h => ?_) (fun h => bsp_intro (fun h2 => ?_) (fun h2 => ?_))))
  · have h := of_decide_eq_true h
    exact ⟨by congr 2; omega, rfl⟩
  · have h := of_decide_eq_false h
    simp only [Bool.not_eq_true', Bool.or_eq_false_iff, beq_eq_false_iff_ne] at h2
    have : Lib.compareBytes a.data.toList b.data.toList ≠ 0 := fun e => h2.2 (cb_zero _ _ e)
    exact ⟨by congr 2; omega, rfl⟩
  · have h := of_decide_eq_false h
    rw [decide_eq_false h] at h2
    have h3 : a.data.toList = b.data.toList := by simpa using h2
    exact ⟨by congr 2; rw [h3, cb_self], rfl⟩

/-! ### Definitions compared -/
def cfG (x y : DX) : Int := Lib.compareBytes x.d.g.data.toList y.d.g.data.toList
def cfV (x y : DX) : Int := if y.d.v < x.d.v then -1 else if x.d.v < y.d.v then 1 else 0
def cfP (x y : DX) : Int := if cfV x y ≠ 0 then cfV x y else Lib.compareBytes (idB x.d.id) (idB y.d.id)
def cfD (x y : DX) : Int := if cfG x y ≠ 0 then cfG x y else cfP x y
theorem cfV_ord : Ord3 cfV where
  anti x y := by unfold cfV; split <;> split <;> omega
  tlt x y z h1 h2 := by unfold cfV at *; split at h1 <;> split at h2 <;> split <;> omega
  el x y z h1 h2 := by unfold cfV at *; split at h1 <;> split at h2 <;> split <;> omega
  le x y z h1 h2 := by unfold cfV at *; split at h1 <;> split at h2 <;> split <;> omega
theorem cfP_ord : Ord3 cfP := cfV_ord.thn (cb_ord (fun x : DX => idB x.d.id)) (fun x y z h1 h2 => by unfold cfV at *; split at h1 <;> split at h2 <;> split <;> omega)
theorem cfD_ord : Ord3 cfD := (cb_ord (fun x : DX => x.d.g.data.toList)).thn cfP_ord (fun x y z h1 h2 => by
  have e1 := cb_zero _ _ h1
  have e2 := cb_zero _ _ h2
  rw [e1, e2]; exact cb_self _)
theorem cfV_eq (x y : DX) : cfV x y = Lib.compareInt y.d.v x.d.v := by unfold cfV Lib.compareInt; rfl
theorem dprec_any (x y : DX) (w : World) : Calls Tryz.prog 75 #[.agg (dfC x).toArray, .agg (dfC y).toArray] w fun e w' => e = .returned (.int .i64 (cfP x y)) ∧ K0 w w' ∧ w.drawn ≤ w'.drawn := by
  refine vc_dprec _ _ w _ ?_
  intro n w1 hn n1 w2 hn1
  have b1 := (hn1.kp (fun _ => False)).blk hn.block (fun h => h)
  have b2 := hn1.block
  have hd : w2.drawn = w.drawn := by rw [hn1.hw, hn.hw]; rfl
  have k2 : K0 w w2 := (hn.kp _).trans (hn1.kp _)
  refine ⟨fun wx => K0 w2 wx, (Kp.refl _ _).drew, y.d.v, fun wx h => cell_at (h.blk b2 (fun h => h)) rfl, x.d.v, fun wx h => cell_at (h.blk b1 (fun h => h)) rfl, x.d.id, fun wx h => AtL_block (h.blk b1 (fun h => h)) rfl, y.d.id, fun wx h => AtL_block (h.blk b2 (fun h => h)) rfl, ?_⟩
  refine ⟨(Tryz.cmp_Compare_int y.d.v x.d.v w2.drew).mono fun e w3 ⟨he, hw⟩ => ⟨_, he, by rw [hw]; exact (Kp.refl _ _).drew, ?_⟩⟩
  subst hw
  refine ⟨(mcompare_any x.d.id y.d.id w2.drew).mono fun e w4 ⟨he, hk4, hd4⟩ => ⟨_, he, fun n3 w5 hn5 => ?_⟩⟩
  refine ⟨(cmpOr_any _ _ n3 2 _ w5 hn5.block).mono fun e w6 ⟨he, hw⟩ => ⟨_, he, ?_, ?_, ?_⟩⟩
  · unfold cfP; rw [cfV_eq]
  · rw [hw]; exact (k2.drew.trans hk4).trans (hn5.kp _)
  · rw [hw, hn5.hw]
    show w.drawn ≤ w4.drawn
    have : w2.drew.drawn = w2.drawn + 1 := rfl
    omega
theorem pcmp_any (x y : DX) (w : World) : Calls Tryz.prog 72 #[.agg (dfC x).toArray, .agg (dfC y).toArray] w fun e w' => e = .returned (.int .i64 (cfD x y)) ∧ K0 w w' ∧ w.drawn ≤ w'.drawn := by
  refine vc_pcmp _ _ w _ ?_
  intro n w1 hn n1 w2 hn1
  have b1 := (hn1.kp (fun _ => False)).blk hn.block (fun h => h)
  have b2 := hn1.block
  have hd : w2.drawn = w.drawn := by rw [hn1.hw, hn.hw]; rfl
  have k2 : K0 w w2 := (hn.kp _).trans (hn1.kp _)
  refine ⟨fun wx => K0 w2 wx, (Kp.refl _ _).drew, x.d.g, fun wx h => cell_at (h.blk b1 (fun h => h)) rfl, y.d.g, fun wx h => cell_at (h.blk b2 (fun h => h)) rfl, x.d.id, x.d.au, x.d.g, x.d.v, x.d.rm, x.d.md, x.p, x.d.ms.length, x.c, x.d.tx, fun wx h => AtL_block (h.blk b1 (fun h => h)) rfl, y.d.id, y.d.au, y.d.g, y.d.v, y.d.rm, y.d.md, y.p, y.d.ms.length, y.c, y.d.tx, fun wx h => AtL_block (h.blk b2 (fun h => h)) rfl, ?_⟩
  refine ⟨(cmpS_any x.d.g y.d.g w2.drew).mono fun e w3 ⟨he, hw⟩ => ⟨_, he, by rw [hw]; exact (Kp.refl _ _).drew, ?_⟩⟩
  subst hw
  refine ⟨(dprec_any x y w2.drew).mono fun e w4 ⟨he, hk4, hd4⟩ => ⟨_, he, fun n3 w5 hn5 => ?_⟩⟩
  refine ⟨(cmpOr_any _ _ n3 2 _ w5 hn5.block).mono fun e w6 ⟨he, hw⟩ => ⟨_, he, rfl, ?_, ?_⟩⟩
  · rw [hw]; exact (k2.drew.trans hk4).trans (hn5.kp _)
  · rw [hw, hn5.hw]
    show w.drawn ≤ w4.drawn
    have : w2.drew.drawn = w2.drawn + 1 := rfl
    omega

/-! ### Sorted -/
theorem sortW_kp {α : Type} [Inhabited α] (enc : α → List Value) (k : Nat) (w : World) (blk off m : Nat) (dk : Array α) (os : Array Obj) : Kp (· = blk) w (sortWorldK enc k w blk off m dk os) := by
  refine ⟨rfl, rfl, rfl, size_sortWorldK_c enc k w blk off m dk os, fun i hi hne => ?_⟩
  show (((Sort.ahead w m).heap.modify blk _) ++ os)[i]? = _
  rw [Array.getElem?_append_left (by simpa [Sort.ahead] using hi), Array.getElem?_modify, if_neg (fun e => hne e.symm)]
  rfl
/-- The row's block is of the same make. -/
theorem sortW_blk {α : Type} [Inhabited α] (enc : α → List Value) (k : Nat) (w : World) (blk off m : Nat) (dk : Array α) (os : Array Obj) {cur : Array Value} {t : TypeId} (h : w.heap[blk]? = some (.cells cur t (0, 0))) : ∃ cur' : Array Value, cur'.size = cur.size ∧ (sortWorldK enc k w blk off m dk os).heap[blk]? = some (.cells cur' t (0, 0)) := by
  have hlt := block_lt h
  refine ⟨putCells id off (flatK enc k dk) cur, by simp [putCells], ?_⟩
  show (((Sort.ahead w m).heap.modify blk (onCells (putCells id off (flatK enc k dk)))) ++ os)[blk]? = _
  rw [Array.getElem?_append_left (by simpa [Sort.ahead] using hlt), Array.getElem?_modify, if_pos rfl]
  have e : (Sort.ahead w m).heap[blk]? = w.heap[blk]? := rfl
  rw [e, h]
  rfl
instance : Inhabited DX := ⟨⟨dz, none, 0⟩⟩
theorem dfC_one (x : DX) : ∀ v ∈ dfC x, v.oneCell' = true := fun v hv => by
  unfold dfC at hv
  rcases List.mem_append.1 hv with h | h
  · exact arr_one x.d.id 32 v h
  rcases List.mem_append.1 h with h | h
  · exact arr_one x.d.au 16 v h
  · simp only [List.mem_cons, List.not_mem_nil, or_false] at h
    rcases h with h | h | h | h | h | h <;> (subst h; rfl)
theorem dfC_flat (l : List DX) : (l.flatMap dfC).length = l.length * 54 := len_flat dfC 54 l (fun _ _ => rfl)
set_option maxHeartbeats 1000000 in
theorem psort_any (cs : List DX) (p : Option Addr) (c : Nat) (w : World) {base : Nat} (ho : w.ownsRow base 56 54 (.slice p cs.length c) cs.length (cs.flatMap dfC)) (hl : cs.length ≤ 1000000) :
    Calls Tryz.prog 71 #[.slice p cs.length c, .func (.func 72) #[] #[]] w fun e w' => e = .returned (.tuple #[]) ∧
      ∃ cs' : List DX, cs'.Perm cs ∧ (cs'.Pairwise fun x y => ¬ cfD y x < 0) ∧
        w'.ownsRow base 56 54 (.slice p cs'.length c) cs'.length (cs'.flatMap dfC) ∧ Kp (fun i => (Value.slice p cs.length c).ownBlock = some i) w w' := by
  rcases Nat.eq_zero_or_pos cs.length with h0 | h0
  · have : cs = [] := List.eq_nil_of_length_eq_zero h0
    subst this
    exact (Tryz.slices_SortFunc_none71 p c _ w).mono fun e w' ⟨he, hw⟩ => ⟨he, [], .refl _, .nil, by rw [hw]; exact ho, by rw [hw]; exact .refl _ _⟩
  rcases ho.2 with ⟨_, hz⟩ | ⟨g, cap, cur, he, hbase, hg, hcap, hmax, hcs, _⟩
  · omega
  simp only [Value.slice.injEq, true_and] at he
  obtain ⟨rfl, rfl⟩ := he
  have hcell : ∀ k x, cs[k]? = some x → ∀ j v, (dfC x)[j]? = some v → w.cell? ⟨g, k * 54 + j, none⟩ = some v := fun k x hk j v hv => by
    have hj : j < 54 := by rw [← dfC_length x]; exact (List.getElem?_eq_some_iff.1 hv).1
    obtain ⟨g', e', hc⟩ := own_cellL ho (i := k * 54 + j) (v := v) (by rw [flat_get dfC 54 cs k x j (fun y _ => dfC_length y) hk hj]; exact hv)
    simp only [Option.some.injEq, Addr.mk.injEq, and_true] at e'
    subst e'
    exact hc
  have key : ∀ (d : Array DX) (t : Nat), t < d.size * 54 → ∃ x v, d[t / 54]? = some x ∧ (dfC x)[t % 54]? = some v ∧ (flatK dfC 54 d)[t]! = v := fun d t ht => by
    have h1 : t / 54 < d.size := by omega
    have h2 : t % 54 < (dfC d[t / 54]!).length := by rw [dfC_length]; omega
    refine ⟨d[t / 54]!, (dfC d[t / 54]!)[t % 54], ?_, List.getElem?_eq_getElem h2, ?_⟩
    · rw [Array.getElem?_eq_getElem h1, getElem!_pos d _ h1]
    · rw [get_flatK dfC 54 d t ht, getElem!_pos (dfC d[t / 54]!) (t % 54) h2]
  have hH : HoldsK dfC 54 w g 0 cs.toArray := by
    intro t ht
    rw [size_flatK] at ht
    obtain ⟨x, v, h1, h2, h3⟩ := key cs.toArray t ht
    refine ⟨?_, frozen_block hg _⟩
    rw [h3, Nat.zero_add]
    have := hcell (t / 54) x (by simpa using h1) (t % 54) v h2
    rw [show t / 54 * 54 + t % 54 = t by omega] at this
    exact this
  have eg : ∀ args w, (callFunc 72 args).run Tryz.prog w = .ok (.enter 72 args) w := enters_of Tryz.func72 (by kernel_rfl) rfl
  have hcmp : CmpLays Tryz.prog 72 #[] dfC 54 cfD g 0 cs.toArray.size w := fun m os dk _ x y => (pcmp_any x y _).mono fun e w' ⟨he, hk, hd⟩ => ⟨he, grow_of hk hd⟩
  have hS := AnyQ.slices_SortFunc (α := DX) Tryz.laysSlF06_f71 54 Tryz.isAgg56 Tryz.sizeOf56 dfC dfC_length dfC_one cfD cfD_ord.swo 72 #[] g 0 c cs.toArray w eg hcmp hH (block_lt hg) (by simp; omega)
  change Calls Tryz.prog 71 #[.slice (some ⟨g, 0, none⟩) cs.length c, .func (.func 72) #[] #[]] w _ at hS
  refine hS.mono fun e w' ⟨he, d', m, os, hperm, hsort, hw⟩ => ?_
  have hs1 : d'.size = cs.length := by simpa using hperm.1
  have hp : d'.toList.Perm cs := by
    have h1 := hperm.1
    have h2 := hperm.2.2
    rw [show d'.extract 0 cs.toArray.size = d' from by rw [← h1]; exact Array.extract_size] at h2
    rw [show cs.toArray.extract 0 cs.toArray.size = cs.toArray from Array.extract_size] at h2
    exact h2
  have hlen : d'.toList.length = cs.length := hp.length_eq
  refine ⟨he, d'.toList, hp, ?_, ?_, ?_⟩
  · rw [List.pairwise_iff_getElem]
    intro i j hi hj hij
    have := hsort i j (Nat.zero_le _) hij (by simp only [List.size_toArray]; omega)
    have e1 : d'[i]! = d'.toList[i] := by
      rw [getElem!_pos d' i (by simpa using hi)]
      simp
    have e2 : d'[j]! = d'.toList[j] := by
      rw [getElem!_pos d' j (by simpa using hj)]
      simp
    rw [e1, e2] at this
    intro hc
    have h3 : decide (cfD d'.toList[j] d'.toList[i] < 0) = true := decide_eq_true hc
    rw [show ltOf cfD d'.toList[j] d'.toList[i] = decide (cfD d'.toList[j] d'.toList[i] < 0) from rfl, h3] at this
    cases this
  · obtain ⟨cur', hc1, hc2⟩ := sortW_blk dfC 54 w g 0 m d' os hg
    refine ⟨dfC_flat _, .inr ⟨g, c, cur', by rw [hlen], hbase, by rw [hw]; exact hc2, by omega, hmax, by rw [hc1, hcs], ?_⟩⟩
    have hHo := holdsK_sortWorldK_c dfC 54 w g 0 cs.toArray d' m os hH (block_lt hg) hperm.1
    apply List.ext_getElem?
    intro t
    rw [List.getElem?_take]
    rcases Nat.lt_or_ge t (d'.toList.length * 54) with ht | ht
    · rw [if_pos ht]
      have ht' : t < d'.size * 54 := by simpa using ht
      have h1 := (hHo t (by rw [size_flatK]; exact ht')).1
      obtain ⟨x', v', h3, h4, h5⟩ := key d' t ht'
      rw [h5, Nat.zero_add, cell_block hc2] at h1
      rw [Array.getElem?_toList, h1]
      have := flat_get dfC 54 d'.toList (t / 54) x' (t % 54) (fun y _ => dfC_length y) (by simpa using h3) (by omega)
      rw [show t / 54 * 54 + t % 54 = t by omega] at this
      rw [this, h4]
      rfl
    · rw [if_neg (by omega), List.getElem?_eq_none (by rw [dfC_flat]; exact ht)]
  · rw [hw]
    exact (sortW_kp dfC 54 w g 0 m d' os).mono fun i _ e => by rw [e]; rfl

end Go.Proofs.YtkkfnlehlkiejaaGreatDoor

/- delete of a map's entry, clear of a row's end, slices that are shorter. Generic: no program, no condition. -/
namespace Go.Proofs.YtkkfnlehlkiejaaGreatDoor
open Go.RowKit Go.Maps

theorem map_erase {α β : Type} (f : α → β) : ∀ (l : List α) (i : Nat), (l.eraseIdx i).map f = (l.map f).eraseIdx i
  | [], _ => rfl
  | _ :: _, 0 => rfl
  | x :: l, i + 1 => by simp [map_erase f l i]
section
variable {α : Type} {P : Program} {k t e : TypeId} {enc : α → Value} {w w1 : World} {b : Nat} {l : List (α × Value)}
variable [DecidableEq α]
theorem adel_none {β : Type} {l : List (α × β)} {a : α} (h : ∀ p ∈ l, p.1 ≠ a) : adel l a = l := List.filter_eq_self.2 fun p hp => by simp [h p hp]
theorem adel_at {β : Type} : ∀ {l : List (α × β)} {a : α} {v : β} {j : Nat}, (l.Pairwise fun p q => p.1 ≠ q.1) → l[j]? = some (a, v) → adel l a = l.eraseIdx j
  | [], a, v, j, _, h => by simp at h
  | (x, u) :: l, a, v, 0, hd, h => by
    simp at h
    obtain ⟨rfl, rfl⟩ := h
    have := adel_none (fun p hp => fun e => (List.pairwise_cons.1 hd).1 p hp e.symm)
    unfold adel at this ⊢
    rw [List.filter_cons, if_neg (by simp), this]; rfl
  | (x, u) :: l, a, v, j + 1, hd, h => by
    have h' : l[j]? = some (a, v) := by simpa using h
    have hne : x ≠ a := (List.pairwise_cons.1 hd).1 (a, v) (List.mem_of_getElem? h')
    have ih := adel_at (List.pairwise_cons.1 hd).2 h'
    unfold adel at ih ⊢
    rw [List.filter_cons, if_pos (by simp [hne]), ih]; rfl
theorem aget_adel {β : Type} (l : List (α × β)) (a c : α) : aget (adel l a) c = if a = c then none else aget l c := by
  induction l with
  | nil => simp [adel, aget]
  | cons p r ih =>
    obtain ⟨x, u⟩ := p
    unfold adel at ih ⊢
    rw [List.filter_cons]
    by_cases h : x = a
    · subst h
      rw [if_neg (by simp), ih]
      by_cases h2 : x = c
      · rw [if_pos h2, if_pos h2]
      · rw [if_neg h2, if_neg h2]; simp [aget, h2]
    · rw [if_pos (by simp [h])]
      unfold aget
      by_cases h2 : x = c
      · subst h2; simp [Ne.symm h]
      · simp only [h2, if_false]; exact ih
variable (hinj : ∀ x y, enc x = enc y → x = y)
include hinj
/-- An entry of a map is struck. -/
theorem MapB.del (h : MapB P k enc w b l) (K : Keyed P k) (ht : P.underlying t = some (.map k e)) {a : α} {kl : Lit} (ha : keyOf P k (enc a) = some kl) :
    ∃ w1, BltP P .delete [t, k] [.map (some b), enc a] w w1 ∧ MapB P k enc w1 b (adel l a) ∧ Kp (· = b) w w1 := by
  obtain ⟨es, c, hb, he⟩ := h.blk
  have hkp : ∀ o, Kp (· = b) w (ChangeMaps.setBlock w b o) := fun o => ⟨rfl, rfl, rfl, by simp [ChangeMaps.setBlock], fun i _ hi => ChangeMaps.heap_setBlock_other hb _ (fun e => hi (by rw [e]))⟩
  have hkeys : ∀ p ∈ adel l a, ∃ kl, keyOf P k (enc p.1) = some kl := fun p hp => h.key p (List.mem_filter.1 hp).1
  have hdis : (adel l a).Pairwise fun p q => p.1 ≠ q.1 := List.Pairwise.sublist List.filter_sublist h.dis
  rcases map_find hinj K he h.key h.dis ha (w := w) with ⟨h1, h2⟩ | ⟨j, x, u, h1, h2, h3, h4, h5⟩
  · refine ⟨ChangeMaps.setBlock w b (.map es c), ⟨fun ty cs => ?_⟩, ⟨⟨_, _, ChangeMaps.heap_setBlock_same hb _, ?_⟩, hkeys, hdis, fun es' c' h' => by rw [ChangeMaps.heap_setBlock_same hb] at h'; cases h'; exact h.brn es c hb⟩, hkp _⟩
    · simp [builtin, Builtin.delete_, run_underlying ht, MapKept.run_getObj_map hb, K.check w _ ha, h2, MapKept.run_setObj_map _ hb, Result.andThen, ChangeMaps.setBlock]
    · rw [adel_none (aget_none.1 h1), he]
  · refine ⟨ChangeMaps.setBlock w b (.map (es.eraseIdxIfInBounds j) c), ⟨fun ty cs => ?_⟩, ⟨⟨_, _, ChangeMaps.heap_setBlock_same hb _, ?_⟩, hkeys, hdis, fun es' c' h' => by
      rw [ChangeMaps.heap_setBlock_same hb] at h'
      cases h'
      have h6 := h.brn es c hb
      have hs : List.Sublist (es.eraseIdxIfInBounds j).toList es.toList := by rw [Array.toList_eraseIdxIfInBounds]; exact List.eraseIdx_sublist _ _
      exact ⟨h6.1.sublist (hs.map _), fun x hx => h6.2 x (hs.subset hx)⟩⟩, hkp _⟩
    · simp [builtin, Builtin.delete_, run_underlying ht, MapKept.run_getObj_map hb, K.check w _ ha, h2, MapKept.run_setObj_map _ hb, Result.andThen, ChangeMaps.setBlock]
    · rw [adel_at h.dis h3]
      rw [map_erase, ← he, ← map_erase]
      simp
end

/-! ### The end of a row is cleared -/
theorem putL_len : ∀ (vs c : List Value) (o : Nat), (putL c o vs).length = c.length
  | [], c, o => rfl
  | v :: r, c, o => by simp only [putL]; rw [putL_len r]; simp
theorem putL_take : ∀ (vs c : List Value) (o k : Nat), k ≤ o → (putL c o vs).take k = c.take k
  | [], c, o, k, _ => rfl
  | v :: r, c, o, k, h => by
    simp only [putL]
    rw [putL_take r _ (o + 1) k (by omega)]
    apply List.ext_getElem?
    intro i
    rw [List.getElem?_take, List.getElem?_take]
    split
    · rw [List.getElem?_set]
      rw [if_neg (by omega)]
    · rfl
theorem oneB_all : ∀ l : List Value, (∀ v ∈ l, v.oneCell' = true) → oneB l = true
  | [], _ => rfl
  | v :: r, h => by
    have h1 := h v (by simp)
    have h2 := oneB_all r (fun u hu => h u (by simp [hu]))
    cases v <;> first | exact h2 | (simp [Value.oneCell'] at h1)
theorem zeroCells_mem {z : Array Value} {n : Nat} {v : Value} (h : v ∈ (Builtin.zeroCells z n).toList) : v ∈ z.toList := by
  unfold Builtin.zeroCells at h
  rw [Array.toList_map, List.mem_map] at h
  obtain ⟨i, hi, rfl⟩ := h
  have hi : i < n * z.size := by simpa using hi
  have hz : 0 < z.size := by
    rcases Nat.eq_zero_or_pos z.size with h0 | h0
    · rw [h0] at hi; omega
    · exact h0
  have : i % z.size < z.size := Nat.mod_lt _ hz
  rw [getElem!_pos z _ this]
  simp
theorem zeroCells_len {z : Array Value} {n : Nat} : (Builtin.zeroCells z n).toList.length = n * z.size := by simp [Builtin.zeroCells]
theorem clear_row {P : Program} {w : World} {t e T : TypeId} (ht : P.underlying t = some (.slice e)) {z : Value} (hz : ∀ w, (zeroValue e).run P w = .ok z w) {b o m c : Nat} {cells : Array Value} (hb : w.heap[b]? = some (.cells cells T (0, 0)))
    (hm : 0 < m) (hl : o + m * z.cells.size ≤ cells.size) (h1 : ∀ v ∈ z.cells.toList, v.oneCell' = true) :
    ∃ w1, BltP P .clear [t] [.slice (some ⟨b, o, none⟩) m c] w w1 ∧ Kp (· = b) w w1 ∧ w1.heap[b]? = some (.cells (putL cells.toList o (Builtin.zeroCells z.cells m).toList).toArray T (0, 0)) := by
  have hst := run_storeCells_w (P := P) (b := b) (o := o) (Builtin.zeroCells z.cells m).toList 0 w (oneB_all _ fun v hv => h1 v (zeroCells_mem hv)) (fun j hj => by
    rw [zeroCells_len] at hj
    exact cell_wr hb (by omega))
  refine ⟨wset w b o (Builtin.zeroCells z.cells m).toList, ⟨fun ty cs => ?_⟩, wset_kp _ _ _, wset_block _ _ _ _ hb⟩
  obtain ⟨m, rfl⟩ : ∃ k, m = k + 1 := ⟨m - 1, by omega⟩
  rw [Nat.add_zero] at hst
  simp [builtin, Builtin.clear_, run_underlying ht, hz, hst, Result.andThen]
/-- The front of a row is a row. -/
theorem own_pre {w : World} {base : Nat} {e : TypeId} {L n c m : Nat} {p : Option Addr} {xs : List Value} (h : w.ownsRow base e L (.slice p n c) n xs) (hm : m ≤ n) (hn : 0 < n) : w.ownsRow base e L (.slice p m c) m (xs.take (m * L)) := by
  have hl := h.1
  refine ⟨by rw [List.length_take, hl]; exact Nat.min_eq_left (Nat.mul_le_mul_right _ hm), ?_⟩
  rcases h.2 with ⟨_, h0⟩ | ⟨g, cap, cur, hv, hb, hg, h4, h5, h6, h7⟩
  · omega
  · simp only [Value.slice.injEq, true_and] at hv
    obtain ⟨rfl, rfl⟩ := hv
    refine .inr ⟨g, c, cur, rfl, hb, hg, by omega, h5, h6, ?_⟩
    rw [← h7, List.take_take, Nat.min_eq_left (Nat.mul_le_mul_right _ hm)]
/-- What lies behind a row is written. -/
theorem own_tail {w w1 : World} {base : Nat} {e : TypeId} {L n c g o : Nat} {xs vs : List Value} (h : w.ownsRow base e L (.slice (some ⟨g, 0, none⟩) n c) n xs) {cells : Array Value} (hg : w.heap[g]? = some (.cells cells e (0, 0))) (ho : n * L ≤ o) (hw : w1.heap[g]? = some (.cells (putL cells.toList o vs).toArray e (0, 0))) :
    w1.ownsRow base e L (.slice (some ⟨g, 0, none⟩) n c) n xs := by
  refine ⟨h.1, ?_⟩
  rcases h.2 with ⟨hv, _⟩ | ⟨g', cap, cur, hv, hb, hg', h4, h5, h6, h7⟩
  · simp at hv
  · simp only [Value.slice.injEq, true_and, Option.some.injEq, Addr.mk.injEq, and_true] at hv
    obtain ⟨rfl, rfl⟩ := hv
    rw [hg] at hg'
    simp only [Option.some.injEq, Obj.cells.injEq, and_true] at hg'
    subst hg'
    refine .inr ⟨g, c, _, rfl, hb, hw, h4, h5, ?_, ?_⟩
    · simp [putL_len, h6]
    · show (putL cells.toList o vs).take (n * L) = xs
      rw [putL_take _ _ _ _ ho, h7]
theorem erase_flat {α : Type} (f : α → List Value) (L : Nat) (l : List α) (i : Nat) (hl : ∀ y, (f y).length = L) : (l.flatMap f).take (i * L) ++ (l.flatMap f).drop ((i + 1) * L) = (l.eraseIdx i).flatMap f := by
  rw [take_flat f L l i (fun y _ => hl y), drop_flat f L l (i + 1) (fun y _ => hl y), ← List.flatMap_append, List.eraseIdx_eq_take_drop_succ]
end Go.Proofs.YtkkfnlehlkiejaaGreatDoor

/- The formulas of functions by the symbolic evaluator, and that each gives the call's contract. Written by a program (gen.py). No condition. -/
namespace Go.Proofs.YtkkfnlehlkiejaaGreatDoor
set_option maxRecDepth 100000
set_option linter.unusedVariables false

def VC_rnew (p : Option Addr) (n : Nat) (c : Nat) (w : World) (R : Ending → World → Prop) : Prop :=
 bsp (decide ((↑n : Int) > 64))
 (R (Ending.returned (Value.tuple #[Value.pointer none, Value.int IntKind.i64 64, Value.int IntKind.i64 9])) w)
 (CallsS Tryz.prog 44 #[Value.slice p n c] w fun (e : Ending) (w' : World) =>
 ∃ (p_1 : Option Addr),
 ∃ (n_1 : Nat),
 ∃ (c : Nat),
 e = Ending.returned (Value.slice p_1 n_1 c) ∧
 KeptL [] w w' ∧
 ∀ (n_2 : Nat) (w1 : World),
 NewB w' (Obj.map #[] 0) n_2 w1 →
 KeptL [] w' w1 ∧
 ∀ (n_3 : Nat) (W : World),
 Loc w.heap.size [Blk.mk n_3 99 [Value.slice p_1 n_1 c, Value.slice none 0 0, Value.map (some n_2)] 2] w1 W →
 ∃ (I : List Value → World → Prop),
 ∃ (m : List Value → World → Nat),
 I [Value.int IntKind.i64 0] W ∧
 ∀ (x : Int) (w' : World),
 I [Value.int IntKind.i64 x] w' →
 bsp (decide (x < (↑n : Int)))
 (nn true p fun (b o : Nat) =>
 (0 ≤ x ∧ x < (↑n : Int)) ∧
 ∃ (x_1 : ByteArray),
 ∃ (f : Nat → Int),
 AtL w' b (o + x.toNat * 17)
 ([Value.string x_1] ++ arrI IntKind.u8 f 16 0) ∧
 ∀ (n : Nat) (W : World),
 Loc w.heap.size
 [Blk.mk n 94
 ([Value.string x_1] ++ arrI IntKind.u8 f 16 0)
 (wrM 2)]
 w' W →
 CallsS Tryz.prog 35 #[Value.string x_1] W fun (e : Ending) (w'_1 : World) =>
 ∃ (x_2 : Option Addr),
 ∃ (x_3 : Int),
 ∃ (x_4 : Int),
 e =
 Ending.returned
 (Value.tuple
 #[Value.pointer x_2, Value.int IntKind.i64 x_3, Value.int IntKind.i64 x_4]) ∧
 KeptL [n] W w'_1 ∧
 bsp (x_4 != 0)
 (R
 (Ending.returned
 (Value.tuple
 #[Value.pointer none, Value.int IntKind.i64 x, Value.int IntKind.i64 x_4]))
 w'_1)
 (∃ (p : Option Addr),
 ∃ (n_4 : Nat),
 ∃ (c : Nat),
 w'_1.cell? (Addr.mk n_3 (0 + 1) none) = some (Value.slice p n_4 c) ∧
 ∀ (n_5 : Nat) (W : World),
 Loc w.heap.size
 [Blk.mk n_5 74 [Value.pointer x_2] 2,
 Blk.mk n 94
 ([Value.string x_1] ++ arrI IntKind.u8 f 16 0)
 0]
 w'_1 W →
 ∃ (base : Nat),
 ∃ (xs : List Value),
 W.ownsRow base 74 1 (Value.slice p n_4 c) n_4 xs ∧
 n_4 + 1 ≤ 9223372036854775807 ∧
 (n_4 + 1) * 8 ≤ 140737488355328 ∧
 base ≤ W.heap.size ∧
 ∀ (p' : Option Addr) (c' : Nat) (w'_2 : World),
 w'_2.ownsRow base 74 1 (Value.slice p' (n_4 + 1) c') (n_4 + 1)
 (xs ++ [Value.pointer x_2]) →
 W.grownBy w'_2 (Value.slice p n_4 c).ownBlock →
 (n_4 + 1 ≤ c → p' = p ∧ c' = c) →
 KeptL [n] W w'_2 ∧
 ((∃ (u : Value), w'_2.cell? (Addr.mk n_3 (0 + 1) none) = some u) ∧
 w'_2.frozen? (Addr.mk n_3 (0 + 1) none) = false) ∧
 ∀ (w1 : World),
 PutB w'_2 n_3 (0 + 1) [Value.slice p' (n_4 + 1) c'] w1 →
 KeptL [n] w'_2 w1 ∧
 I [Value.int IntKind.i64 (IntKind.i64.wrap (x + 1))] w1 ∧
 m [Value.int IntKind.i64 (IntKind.i64.wrap (x + 1))] w1 <
 m [Value.int IntKind.i64 x] w'))
 (R
 (Ending.returned
 (Value.tuple
 #[Value.pointer (some (Addr.mk n_3 0 none)), Value.int IntKind.i64 0, Value.int IntKind.i64 0]))
 w'))
theorem vc_rnew (p : Option Addr) (n : Nat) (c : Nat) (w : World) (R : Ending → World → Prop) (h : VC_rnew p n c w R) : Calls Tryz.prog 13 ([Value.slice
    p n c] : List Value).toArray w R := by
  have e : execR2 { P := Tryz.prog, loops := [(5, [(21, Ck.int IntKind.i64)])], pur := pur1, tails := [], joins := [], boxes := [] } Tryz.f13.results.toList R (Tryz.f13.body.getD .skip) (initF [Value.slice
    p n c] (Tryz.f13.ntmps - ([Value.slice p n c] : List Value).length)) w = VC_rnew p n c w R := by kernel_rfl
  have hb : Tryz.f13.body = some (Tryz.f13.body.getD .skip) := by kernel_rfl
  exact calls_of_exec2' (P := Tryz.prog) (fn := Tryz.f13) (c := Tryz.f13.body.getD .skip) (args := [Value.slice p n
    c]) (w := w) (R := R) pur1_ok Tryz.func13 hb e h

def VC_auclone (p : Option Addr) (n : Nat) (c : Nat) (w : World) (R : Ending → World → Prop) : Prop :=
 bsp p.isNone (R (Ending.returned (Value.slice none 0 0)) w)
 (∀ (n_1 : Nat) (W : World),
 Loc w.heap.size [Blk.mk n_1 94 [] 2] w W →
 ∃ (base : Nat),
 ∃ (xs : List Value),
 ∃ (news : List Value),
 W.ownsRow base 94 17 (Value.slice (some (Addr.mk n_1 0 none)) 0 0) 0 xs ∧
 news.length = n * 17 ∧
 SrcP W p news ∧
 0 + n ≤ 9223372036854775807 ∧
 (0 + n) * 32 ≤ 140737488355328 ∧
 base ≤ W.heap.size ∧
 ∀ (p' : Option Addr) (c' : Nat) (w' : World),
 w'.ownsRow base 94 17 (Value.slice p' (0 + n) c') (0 + n) (xs ++ news) →
 W.grownBy w' (Value.slice (some (Addr.mk n_1 0 none)) 0 0).ownBlock →
 (0 + n ≤ 0 → p' = some (Addr.mk n_1 0 none) ∧ c' = 0) →
 KeptL [] W w' ∧ R (Ending.returned (Value.slice p' (0 + n) c')) w')
theorem vc_auclone (p : Option Addr) (n : Nat) (c : Nat) (w : World) (R : Ending → World → Prop) (h : VC_auclone p n c w R) : Calls Tryz.prog 44 ([Value.slice
    p n c] : List Value).toArray w R := by
  have e : execR2 { P := Tryz.prog, loops := [], pur := pur1, tails := [], joins := [], boxes := [] } Tryz.f44.results.toList R (Tryz.f44.body.getD .skip) (initF [Value.slice
    p n c] (Tryz.f44.ntmps - ([Value.slice p n c] : List Value).length)) w = VC_auclone p n c w R := by kernel_rfl
  have hb : Tryz.f44.body = some (Tryz.f44.body.getD .skip) := by kernel_rfl
  exact calls_of_exec2' (P := Tryz.prog) (fn := Tryz.f44) (c := Tryz.f44.body.getD .skip) (args := [Value.slice p n
    c]) (w := w) (R := R) pur1_ok Tryz.func44 hb e h

def VC_risauth (b : Nat) (s : ByteArray) (a : Nat → Int) (w : World) (R : Ending → World → Prop) : Prop :=
 ∀ (n : Nat),
 ∃ (p : Option Addr),
 ∃ (n_1 : Nat),
 ∃ (c : Nat),
 (∀ (W : World),
 Loc w.heap.size
 [Blk.mk n 53
 (arrI IntKind.u8 a 16 0)
 2]
 w W →
 W.cell? (Addr.mk b 0 none) = some (Value.slice p n_1 c)) ∧
 ∀ (W : World),
 Loc w.heap.size
 [Blk.mk n 53
 (arrI IntKind.u8 a 16 0)
 2]
 w W →
 ∃ (I : List Value → World → Prop),
 ∃ (m : List Value → World → Nat),
 I [Value.int IntKind.i64 0] W ∧
 ∀ (x : Int) (w' : World),
 I [Value.int IntKind.i64 x] w' →
 Loc w.heap.size
 [Blk.mk n 53
 (arrI IntKind.u8 a 16 0)
 0]
 w' w' →
 bsp (decide (x < (↑n_1 : Int)))
 (nn true p fun (b_1 o : Nat) =>
 (0 ≤ x ∧ x < (↑n_1 : Int)) ∧
 ∃ (x_1 : ByteArray),
 ∃ (f : Nat → Int),
 AtL w' b_1 (o + x.toNat * 17)
 ([Value.string x_1] ++ arrI IntKind.u8 f 16 0) ∧
 ∀ (n_2 : Nat),
 ∃ (r : Bool),
 EqP Tryz.prog 53
 (Value.agg
 (arrI IntKind.u8 f 16 0).toArray)
 (Value.agg
 (arrI IntKind.u8 a 16 0).toArray)
 r ∧
 ∃ (p : Option Addr),
 ∃ (n_3 : Nat),
 ∃ (c : Nat),
 gimp r
 (∀ (W : World),
 Loc w.heap.size
 [Blk.mk n 53
 (arrI IntKind.u8 a 16 0)
 0,
 Blk.mk n_2 94
 ([Value.string x_1] ++ arrI IntKind.u8 f 16 0)
 (wrM 2)]
 w' W →
 W.cell? (Addr.mk b (0 + 1) none) = some (Value.slice p n_3 c)) ∧
 nn r p fun (b o : Nat) =>
 gimp r (0 ≤ x ∧ x < (↑n_3 : Int)) ∧
 ∃ (x_2 : Option Addr),
 gimp r
 (∀ (W : World),
 Loc w.heap.size
 [Blk.mk n 53
 (arrI IntKind.u8 a 16 0)
 0,
 Blk.mk n_2 94
 ([Value.string x_1] ++ arrI IntKind.u8 f 16 0)
 (wrM 2)]
 w' W →
 W.cell? (Addr.mk b (o + x.toNat) none) = some (Value.pointer x_2)) ∧
 ∀ (W : World),
 Loc w.heap.size
 [Blk.mk n 53
 (arrI IntKind.u8 a 16 0)
 0,
 Blk.mk n_2 94
 ([Value.string x_1] ++ arrI IntKind.u8 f 16 0)
 (wrM 2)]
 w' W →
 bsp r
 (CallsS Tryz.prog 46 #[Value.pointer x_2, Value.string s] W
 fun (e : Ending) (w'_1 : World) =>
 ∃ (x_3 : Int),
 e = Ending.returned (Value.int IntKind.i64 x_3) ∧
 KeptL [n, n_2] W w'_1 ∧
 bsp (true && x_3 == 1) (R (Ending.returned (Value.bool true)) w'_1)
 (I [Value.int IntKind.i64 (IntKind.i64.wrap (x + 1))] w'_1 ∧
 m [Value.int IntKind.i64 (IntKind.i64.wrap (x + 1))] w'_1 <
 m [Value.int IntKind.i64 x] w'))
 (KeptL [n, n_2] W W ∧
 I [Value.int IntKind.i64 (IntKind.i64.wrap (x + 1))] W ∧
 m [Value.int IntKind.i64 (IntKind.i64.wrap (x + 1))] W <
 m [Value.int IntKind.i64 x] w'))
 (R (Ending.returned (Value.bool false)) w')
theorem vc_risauth (b : Nat) (s : ByteArray) (a : Nat → Int) (w : World) (R : Ending → World → Prop) (h : VC_risauth b s a w R) : Calls Tryz.prog 16 ([Value.pointer
    (some { block := b, off := 0 }),
  Value.string s, Value.agg (arrI IntKind.u8 a 16 0).toArray] : List Value).toArray w R := by
  have e : execR2 { P := Tryz.prog, loops := [(4, [(16, Ck.int IntKind.i64)])], pur := pur1, tails := [], joins := [], boxes := [] } Tryz.f16.results.toList R (Tryz.f16.body.getD .skip) (initF [Value.pointer
    (some { block := b, off := 0 }),
  Value.string s,
  Value.agg
    (arrI IntKind.u8 a 16
        0).toArray] (Tryz.f16.ntmps - ([Value.pointer (some { block := b, off := 0 }), Value.string s,
  Value.agg (arrI IntKind.u8 a 16 0).toArray] : List Value).length)) w = VC_risauth b s a w R := by kernel_rfl
  have hb : Tryz.f16.body = some (Tryz.f16.body.getD .skip) := by kernel_rfl
  exact calls_of_exec2' (P := Tryz.prog) (fn := Tryz.f16) (c := Tryz.f16.body.getD .skip) (args := [Value.pointer
    (some { block := b, off := 0 }),
  Value.string s, Value.agg (arrI IntKind.u8 a 16 0).toArray]) (w := w) (R := R) pur1_ok Tryz.func16 hb e h

def VC_rdrop (b : Nat) (i : Nat → Int) (w : World) (R : Ending → World → Prop) : Prop :=
 ∀ (n : Nat) (W : World),
 Loc w.heap.size
 [Blk.mk n 52
 (arrI IntKind.u8 i 32 0)
 2]
 w W →
 ∃ (S : World → Prop),
 S W ∧
 ∃ (x : Option Nat),
 (∀ (w' : World), S w' → w'.cell? (Addr.mk b (0 + 2) none) = some (Value.map x)) ∧
 ∃ (f : Nat → Int),
 (∀ (w' : World),
 S w' →
 AtL w' n 0
 (arrI IntKind.u8 f 32 0)) ∧
 ∃ (f_1 : Nat → Int),
 ∃ (f_2 : Nat → Int),
 ∃ (x_1 : ByteArray),
 ∃ (x_2 : Int),
 ∃ (x_3 : Bool),
 ∃ (x_4 : Bool),
 ∃ (p : Option Addr),
 ∃ (n_1 : Nat),
 ∃ (c : Nat),
 ∃ (x_5 : ByteArray),
 ∃ (b_1 : Bool),
 (∀ (w' : World),
 S w' →
 LookP Tryz.prog 96 (Value.map x)
 (Value.agg
 (arrI IntKind.u8 f 32 0).toArray)
 true
 (Value.tuple
 #[Value.agg
 (arrI IntKind.u8 f_1 32 0 ++ (arrI IntKind.u8 f_2 16 0 ++ [Value.string x_1, Value.int IntKind.i64 x_2, Value.bool x_3, Value.bool x_4,
 Value.slice p n_1 c, Value.string x_5])).toArray,
 Value.bool b_1])
 w') ∧
 ∀ (n_2 : Nat) (w1 : World),
 NewB W
 (Obj.cells
 #[Value.int IntKind.u8 0, Value.int IntKind.u8 0, Value.int IntKind.u8 0,
 Value.int IntKind.u8 0, Value.int IntKind.u8 0, Value.int IntKind.u8 0, Value.int IntKind.u8 0,
 Value.int IntKind.u8 0, Value.int IntKind.u8 0, Value.int IntKind.u8 0, Value.int IntKind.u8 0,
 Value.int IntKind.u8 0, Value.int IntKind.u8 0, Value.int IntKind.u8 0, Value.int IntKind.u8 0,
 Value.int IntKind.u8 0, Value.int IntKind.u8 0, Value.int IntKind.u8 0, Value.int IntKind.u8 0,
 Value.int IntKind.u8 0, Value.int IntKind.u8 0, Value.int IntKind.u8 0, Value.int IntKind.u8 0,
 Value.int IntKind.u8 0, Value.int IntKind.u8 0, Value.int IntKind.u8 0, Value.int IntKind.u8 0,
 Value.int IntKind.u8 0, Value.int IntKind.u8 0, Value.int IntKind.u8 0, Value.int IntKind.u8 0,
 Value.int IntKind.u8 0, Value.int IntKind.u8 0, Value.int IntKind.u8 0, Value.int IntKind.u8 0,
 Value.int IntKind.u8 0, Value.int IntKind.u8 0, Value.int IntKind.u8 0, Value.int IntKind.u8 0,
 Value.int IntKind.u8 0, Value.int IntKind.u8 0, Value.int IntKind.u8 0, Value.int IntKind.u8 0,
 Value.int IntKind.u8 0, Value.int IntKind.u8 0, Value.int IntKind.u8 0, Value.int IntKind.u8 0,
 Value.int IntKind.u8 0, Value.string (ByteArray.mk #[]), Value.int IntKind.i64 0,
 Value.bool false, Value.bool false, Value.slice none 0 0, Value.string (ByteArray.mk #[])]
 56)
 n_2 w1 →
 S w1 ∧
 WrL w1 n_2 0 54 ∧
 ∀ (w1_1 : World),
 PutB w1 n_2 0
 (arrI IntKind.u8 f_1 32 0 ++ (arrI IntKind.u8 f_2 16 0 ++ [Value.string x_1, Value.int IntKind.i64 x_2, Value.bool x_3, Value.bool x_4,
 Value.slice p n_1 c, Value.string x_5]))
 w1_1 →
 KeptL [n] W w1_1 ∧
 bsp (!b_1) (R (Ending.returned (Value.int IntKind.i64 8)) w1_1)
 (∃ (x : Option Nat),
 (∀ (W : World),
 Loc w.heap.size
 [Blk.mk n 52
 (arrI IntKind.u8 i 32 0)
 0]
 w1_1 W →
 W.cell? (Addr.mk b (0 + 2) none) = some (Value.map x)) ∧
 ∀ (W : World),
 Loc w.heap.size
 [Blk.mk n 52
 (arrI IntKind.u8 i 32 0)
 0]
 w1_1 W →
 ∃ (w1 : World),
 BltP Tryz.prog Builtin.delete [96, 52]
 [Value.map x,
 Value.agg
 (arrI IntKind.u8 i 32 0).toArray]
 W w1 ∧
 KeptL [n] W w1 ∧ R (Ending.returned (Value.int IntKind.i64 0)) w1)
theorem vc_rdrop (b : Nat) (i : Nat → Int) (w : World) (R : Ending → World → Prop) (h : VC_rdrop b i w R) : Calls Tryz.prog 43 ([Value.pointer
    (some { block := b, off := 0 }),
  Value.agg (arrI IntKind.u8 i 32 0).toArray] : List Value).toArray w R := by
  have e : execR2 { P := Tryz.prog, loops := [], pur := pur1, tails := [(3, 9), (6, 5)], joins := [], boxes := [] } Tryz.f43.results.toList R (Tryz.f43.body.getD .skip) (initF [Value.pointer
    (some { block := b, off := 0 }),
  Value.agg
    (arrI IntKind.u8 i 32
        0).toArray] (Tryz.f43.ntmps - ([Value.pointer (some { block := b, off := 0 }),
  Value.agg (arrI IntKind.u8 i 32 0).toArray] : List Value).length)) w = VC_rdrop b i w R := by kernel_rfl
  have hb : Tryz.f43.body = some (Tryz.f43.body.getD .skip) := by kernel_rfl
  exact calls_of_exec2' (P := Tryz.prog) (fn := Tryz.f43) (c := Tryz.f43.body.getD .skip) (args := [Value.pointer
    (some { block := b, off := 0 }),
  Value.agg (arrI IntKind.u8 i 32 0).toArray]) (w := w) (R := R) pur1_ok Tryz.func43 hb e h

def VC_rlen (b : Nat) (w : World) (R : Ending → World → Prop) : Prop :=
 ∃ (x : Option Nat),
 w.cell? (Addr.mk b (0 + 2) none) = some (Value.map x) ∧
 ∃ (n : Int), LenP Tryz.prog 96 (Value.map x) n w ∧ R (Ending.returned (Value.int IntKind.i64 n)) w
theorem vc_rlen (b : Nat) (w : World) (R : Ending → World → Prop) (h : VC_rlen b w R) : Calls Tryz.prog 19 ([Value.pointer
    (some { block := b, off := 0 })] : List Value).toArray w R := by
  have e : execR2 { P := Tryz.prog, loops := [], pur := pur1, tails := [], joins := [], boxes := [] } Tryz.f19.results.toList R (Tryz.f19.body.getD .skip) (initF [Value.pointer
    (some
      { block := b,
        off :=
          0 })] (Tryz.f19.ntmps - ([Value.pointer
    (some { block := b, off := 0 })] : List Value).length)) w = VC_rlen b w R := by kernel_rfl
  have hb : Tryz.f19.body = some (Tryz.f19.body.getD .skip) := by kernel_rfl
  exact calls_of_exec2' (P := Tryz.prog) (fn := Tryz.f19) (c := Tryz.f19.body.getD .skip) (args := [Value.pointer
    (some { block := b, off := 0 })]) (w := w) (R := R) pur1_ok Tryz.func19 hb e h

end Go.Proofs.YtkkfnlehlkiejaaGreatDoor

/- The formulas of functions by the symbolic evaluator, and that each gives the call's contract. Written by a program (gen.py). No condition. -/
namespace Go.Proofs.YtkkfnlehlkiejaaGreatDoor
set_option maxRecDepth 100000
set_option linter.unusedVariables false

def VC_radd (b : Nat) (id : Nat → Int) (au : Nat → Int) (g : ByteArray) (v : Int) (rm : Bool) (md : Bool) (p : Option Addr) (n : Nat) (c : Nat) (t : ByteArray) (w : World) (R : Ending → World → Prop) : Prop :=
 ∀ (n_1 : Nat) (W : World),
 Loc w.heap.size
 [Blk.mk n_1 56
 (arrI IntKind.u8 id 32 0 ++ (arrI IntKind.u8 au 16 0 ++ [Value.string g,
 Value.int IntKind.i64 v, Value.bool rm, Value.bool md, Value.slice p n c, Value.string t]))
 2]
 w W →
 CallsS Tryz.prog 24
 #[Value.agg
 (arrI IntKind.u8 id 32 0 ++ (arrI IntKind.u8 au 16 0 ++ [Value.string g,
 Value.int IntKind.i64 v, Value.bool rm, Value.bool md, Value.slice p n c, Value.string t])).toArray]
 W fun (e : Ending) (w' : World) =>
 ∃ (x : Int),
 e = Ending.returned (Value.int IntKind.i64 x) ∧
 KeptL [n_1] W w' ∧
 bsp (x != 0) (R (Ending.returned (Value.int IntKind.i64 x)) w')
 (CallsS Tryz.prog 16
 #[Value.pointer (some (Addr.mk b 0 none)), Value.string g,
 Value.agg
 (arrI IntKind.u8 au 16 0).toArray]
 w' fun (e : Ending) (w'_1 : World) =>
 ∃ (x : Bool),
 e = Ending.returned (Value.bool x) ∧
 KeptL [n_1] w' w'_1 ∧
 bsp (!x) (R (Ending.returned (Value.int IntKind.i64 20)) w'_1)
 (∀ (W : World),
 Loc w.heap.size
 [Blk.mk n_1 56
 (arrI IntKind.u8 id 32 0 ++ (arrI IntKind.u8 au 16 0 ++ [Value.string g, Value.int IntKind.i64 v, Value.bool rm, Value.bool md, Value.slice p n c,
 Value.string t]))
 0]
 w'_1 W →
 ∃ (S : World → Prop),
 S W ∧
 ∃ (x : Option Nat),
 (∀ (w' : World), S w' → w'.cell? (Addr.mk b (0 + 2) none) = some (Value.map x)) ∧
 ∃ (f : Nat → Int),
 (∀ (w' : World),
 S w' →
 AtL w' n_1 0
 (arrI IntKind.u8 f 32 0)) ∧
 ∃ (f_1 : Nat → Int),
 ∃ (f_2 : Nat → Int),
 ∃ (x_1 : ByteArray),
 ∃ (x_2 : Int),
 ∃ (x_3 : Bool),
 ∃ (x_4 : Bool),
 ∃ (p_1 : Option Addr),
 ∃ (n_2 : Nat),
 ∃ (c_1 : Nat),
 ∃ (x_5 : ByteArray),
 ∃ (b_1 : Bool),
 (∀ (w' : World),
 S w' →
 LookP Tryz.prog 96 (Value.map x)
 (Value.agg
 (arrI IntKind.u8 f 32 0).toArray)
 true
 (Value.tuple
 #[Value.agg
 (arrI IntKind.u8 f_1 32 0 ++ (arrI IntKind.u8 f_2 16 0 ++ [Value.string x_1,
 Value.int IntKind.i64 x_2, Value.bool x_3, Value.bool x_4,
 Value.slice p_1 n_2 c_1, Value.string x_5])).toArray,
 Value.bool b_1])
 w') ∧
 ∀ (n_3 : Nat) (w1 : World),
 NewB W
 (Obj.cells
 #[Value.int IntKind.u8 0, Value.int IntKind.u8 0, Value.int IntKind.u8 0,
 Value.int IntKind.u8 0, Value.int IntKind.u8 0, Value.int IntKind.u8 0,
 Value.int IntKind.u8 0, Value.int IntKind.u8 0, Value.int IntKind.u8 0,
 Value.int IntKind.u8 0, Value.int IntKind.u8 0, Value.int IntKind.u8 0,
 Value.int IntKind.u8 0, Value.int IntKind.u8 0, Value.int IntKind.u8 0,
 Value.int IntKind.u8 0, Value.int IntKind.u8 0, Value.int IntKind.u8 0,
 Value.int IntKind.u8 0, Value.int IntKind.u8 0, Value.int IntKind.u8 0,
 Value.int IntKind.u8 0, Value.int IntKind.u8 0, Value.int IntKind.u8 0,
 Value.int IntKind.u8 0, Value.int IntKind.u8 0, Value.int IntKind.u8 0,
 Value.int IntKind.u8 0, Value.int IntKind.u8 0, Value.int IntKind.u8 0,
 Value.int IntKind.u8 0, Value.int IntKind.u8 0, Value.int IntKind.u8 0,
 Value.int IntKind.u8 0, Value.int IntKind.u8 0, Value.int IntKind.u8 0,
 Value.int IntKind.u8 0, Value.int IntKind.u8 0, Value.int IntKind.u8 0,
 Value.int IntKind.u8 0, Value.int IntKind.u8 0, Value.int IntKind.u8 0,
 Value.int IntKind.u8 0, Value.int IntKind.u8 0, Value.int IntKind.u8 0,
 Value.int IntKind.u8 0, Value.int IntKind.u8 0, Value.int IntKind.u8 0,
 Value.string (ByteArray.mk #[]), Value.int IntKind.i64 0, Value.bool false,
 Value.bool false, Value.slice none 0 0, Value.string (ByteArray.mk #[])]
 56)
 n_3 w1 →
 S w1 ∧
 WrL w1 n_3 0 54 ∧
 ∀ (w1_1 : World),
 PutB w1 n_3 0
 (arrI IntKind.u8 f_1 32 0 ++ (arrI IntKind.u8 f_2 16 0 ++ [Value.string x_1,
 Value.int IntKind.i64 x_2, Value.bool x_3, Value.bool x_4,
 Value.slice p_1 n_2 c_1, Value.string x_5]))
 w1_1 →
 KeptL [n_1] W w1_1 ∧
 bsp b_1 (R (Ending.returned (Value.int IntKind.i64 7)) w1_1)
 (∃ (x : Option Nat),
 w1_1.cell? (Addr.mk b (0 + 2) none) = some (Value.map x) ∧
 ∃ (n_4 : Int),
 LenP Tryz.prog 96 (Value.map x) n_4 w1_1 ∧
 bsp (decide (n_4 ≥ 4096))
 (R (Ending.returned (Value.int IntKind.i64 9)) w1_1)
 (∀ (W : World),
 Loc w.heap.size
 [Blk.mk n_1 56
 (arrI IntKind.u8 id 32 0 ++ (arrI IntKind.u8 au 16 0 ++ [Value.string g, Value.int IntKind.i64 v, Value.bool rm,
 Value.bool md, Value.slice p n c, Value.string t]))
 0]
 w1_1 W →
 ∃ (S : World → Prop),
 S W ∧
 ∃ (x : Option Nat),
 (∀ (w' : World),
 S w' → w'.cell? (Addr.mk b (0 + 2) none) = some (Value.map x)) ∧
 ∃ (f : Nat → Int),
 (∀ (w' : World),
 S w' →
 AtL w' n_1 0
 (arrI IntKind.u8 f 32 0)) ∧
 ∃ (f_3 : Nat → Int),
 ∃ (f_4 : Nat → Int),
 ∃ (x_6 : ByteArray),
 ∃ (x_7 : Int),
 ∃ (x_8 : Bool),
 ∃ (x_9 : Bool),
 ∃ (p : Option Addr),
 ∃ (n : Nat),
 ∃ (c : Nat),
 ∃ (x_10 : ByteArray),
 (∀ (w' : World),
 S w' →
 AtL w' n_1 0
 (arrI IntKind.u8 f_3 32 0 ++ (arrI IntKind.u8 f_4 16 0 ++ [Value.string x_6,
 Value.int IntKind.i64 x_7, Value.bool x_8,
 Value.bool x_9, Value.slice p n c,
 Value.string x_10]))) ∧
 CallsS Tryz.prog 53
 #[Value.agg
 (arrI IntKind.u8 f_3 32 0 ++ (arrI IntKind.u8 f_4 16 0 ++ [Value.string x_6,
 Value.int IntKind.i64 x_7, Value.bool x_8,
 Value.bool x_9, Value.slice p n c,
 Value.string x_10])).toArray]
 W fun (e : Ending) (w' : World) =>
 ∃ (f_5 : Nat → Int),
 ∃ (f_6 : Nat → Int),
 ∃ (x_11 : ByteArray),
 ∃ (x_12 : Int),
 ∃ (x_13 : Bool),
 ∃ (x_14 : Bool),
 ∃ (p : Option Addr),
 ∃ (n : Nat),
 ∃ (c : Nat),
 ∃ (x_15 : ByteArray),
 e =
 Ending.returned
 (Value.agg
 (arrI IntKind.u8 f_5 32 0 ++ (arrI IntKind.u8 f_6 16 0 ++ [Value.string x_11,
 Value.int IntKind.i64 x_12,
 Value.bool x_13, Value.bool x_14,
 Value.slice p n c, Value.string x_15])).toArray) ∧
 S w' ∧
 ∃ (w1 : World),
 UpdP Tryz.prog 96 (Value.map x)
 (Value.agg
 (arrI IntKind.u8 f 32 0).toArray)
 (Value.agg
 (arrI IntKind.u8 f_5 32 0 ++ (arrI IntKind.u8 f_6 16 0 ++ [Value.string x_11,
 Value.int IntKind.i64 x_12,
 Value.bool x_13, Value.bool x_14,
 Value.slice p n c, Value.string x_15])).toArray)
 w' w1 ∧
 KeptL [n_1] W w1 ∧
 R
 (Ending.returned
 (Value.int IntKind.i64 0))
 w1))))
theorem vc_radd (b : Nat) (id : Nat → Int) (au : Nat → Int) (g : ByteArray) (v : Int) (rm : Bool) (md : Bool) (p : Option Addr) (n : Nat) (c : Nat) (t : ByteArray) (w : World) (R : Ending → World → Prop) (h : VC_radd b id au g v rm md p n c t w R) : Calls Tryz.prog 22 ([Value.pointer
    (some { block := b, off := 0 }),
  Value.agg
    (arrI IntKind.u8 id 32 0 ++
        (arrI IntKind.u8 au 16 0 ++
          [Value.string g, Value.int IntKind.i64 v, Value.bool rm, Value.bool md, Value.slice p n c,
            Value.string t])).toArray] : List Value).toArray w R := by
  have e : execR2 { P := Tryz.prog, loops := [], pur := pur1, tails := [(8, 10), (13, 7)], joins := [], boxes := [] } Tryz.f22.results.toList R (Tryz.f22.body.getD .skip) (initF [Value.pointer
    (some { block := b, off := 0 }),
  Value.agg
    (arrI IntKind.u8 id 32 0 ++
        (arrI IntKind.u8 au 16 0 ++
          [Value.string g, Value.int IntKind.i64 v, Value.bool rm, Value.bool md, Value.slice p n c,
            Value.string
              t])).toArray] (Tryz.f22.ntmps - ([Value.pointer (some { block := b, off := 0 }),
  Value.agg
    (arrI IntKind.u8 id 32 0 ++
        (arrI IntKind.u8 au 16 0 ++
          [Value.string g, Value.int IntKind.i64 v, Value.bool rm, Value.bool md, Value.slice p n c,
            Value.string t])).toArray] : List Value).length)) w = VC_radd b id au g v rm md p n c t w R := by kernel_rfl
  have hb : Tryz.f22.body = some (Tryz.f22.body.getD .skip) := by kernel_rfl
  exact calls_of_exec2' (P := Tryz.prog) (fn := Tryz.f22) (c := Tryz.f22.body.getD .skip) (args := [Value.pointer
    (some { block := b, off := 0 }),
  Value.agg
    (arrI IntKind.u8 id 32 0 ++
        (arrI IntKind.u8 au 16 0 ++
          [Value.string g, Value.int IntKind.i64 v, Value.bool rm, Value.bool md, Value.slice p n c,
            Value.string t])).toArray]) (w := w) (R := R) pur1_ok Tryz.func22 hb e h

def VC_rpick (b : Nat) (f : FuncId) (fa : Array Value) (fb : Array Value) (w : World) (R : Ending → World → Prop) : Prop :=
 ∃ (x : Option Nat),
 w.cell? (Addr.mk b (0 + 2) none) = some (Value.map x) ∧
 ∃ (n : Nat),
 ∃ (w1 : World),
 RngP Tryz.prog 96 (Value.map x) n w w1 ∧
 KeptL [] w w1 ∧
 ∃ (I : List Value → World → Prop),
 ∃ (m : List Value → World → Nat),
 I [Value.slice none 0 0] w1 ∧
 ∀ (p : Option Addr) (n_1 c : Nat) (w' : World),
 I [Value.slice p n_1 c] w' →
 ∃ (b : Bool),
 ∃ (r : List Value),
 ∃ (w1 : World),
 NxtP Tryz.prog (Value.pointer (some (Addr.mk n 0 none))) b r w' w1 ∧
 KeptL [] w' w1 ∧
 bsp b
 (∃ (f_1 : Nat → Int),
 ∃ (f_2 : Nat → Int),
 ∃ (f_3 : Nat → Int),
 ∃ (x : ByteArray),
 ∃ (x_1 : Int),
 ∃ (x_2 : Bool),
 ∃ (x_3 : Bool),
 ∃ (p_1 : Option Addr),
 ∃ (n_2 : Nat),
 ∃ (c_1 : Nat),
 ∃ (x_4 : ByteArray),
 EntP Tryz.prog (Value.pointer (some (Addr.mk n 0 none)))
 (Value.tuple
 #[Value.agg
 (arrI IntKind.u8 f_1 32 0).toArray,
 Value.agg
 (arrI IntKind.u8 f_2 32 0 ++ (arrI IntKind.u8 f_3 16 0 ++ [Value.string x,
 Value.int IntKind.i64 x_1, Value.bool x_2, Value.bool x_3, Value.slice p_1 n_2 c_1,
 Value.string x_4])).toArray])
 w1 ∧
 ∀ (n : Nat) (W : World),
 Loc w.heap.size
 [Blk.mk n 56
 (arrI IntKind.u8 f_2 32 0 ++ (arrI IntKind.u8 f_3 16 0 ++ [Value.string x,
 Value.int IntKind.i64 x_1, Value.bool x_2, Value.bool x_3, Value.slice p_1 n_2 c_1,
 Value.string x_4]))
 (wrM 2)]
 w1 W →
 ∃ (f_4 : Nat),
 ∃ (a : Array Value),
 ∃ (b : Array Value),
 Value.func (Fn.func f) fa fb = Value.func (Fn.func f_4) a b ∧
 okFn Tryz.prog f_4 = true ∧
 CallsS Tryz.prog f_4
 (appA a
 [Value.agg
 (arrI IntKind.u8 f_2 32 0 ++ (arrI IntKind.u8 f_3 16 0 ++ [Value.string x,
 Value.int IntKind.i64 x_1, Value.bool x_2, Value.bool x_3,
 Value.slice p_1 n_2 c_1, Value.string x_4])).toArray]
 b)
 W fun (e : Ending) (w'_1 : World) =>
 ∃ (x_5 : Bool),
 e = Ending.returned (Value.bool x_5) ∧
 KeptL [n] W w'_1 ∧
 bsp x_5
 (CallsS Tryz.prog 53
 #[Value.agg
 (arrI IntKind.u8 f_2 32 0 ++ (arrI IntKind.u8 f_3 16 0 ++ [Value.string x, Value.int IntKind.i64 x_1, Value.bool x_2, Value.bool x_3,
 Value.slice p_1 n_2 c_1, Value.string x_4])).toArray]
 w'_1 fun (e : Ending) (w'_2 : World) =>
 ∃ (f : Nat → Int),
 ∃ (f_5 : Nat → Int),
 ∃ (x_6 : ByteArray),
 ∃ (x_7 : Int),
 ∃ (x_8 : Bool),
 ∃ (x_9 : Bool),
 ∃ (p_2 : Option Addr),
 ∃ (n_3 : Nat),
 ∃ (c_2 : Nat),
 ∃ (x_10 : ByteArray),
 e =
 Ending.returned
 (Value.agg
 (arrI IntKind.u8 f 32 0 ++ (arrI IntKind.u8 f_5 16 0 ++ [Value.string x_6, Value.int IntKind.i64 x_7, Value.bool x_8,
 Value.bool x_9, Value.slice p_2 n_3 c_2, Value.string x_10])).toArray) ∧
 KeptL [n] w'_1 w'_2 ∧
 ∀ (n_4 : Nat) (W : World),
 Loc w.heap.size
 [Blk.mk n_4 56
 (arrI IntKind.u8 f 32 0 ++ (arrI IntKind.u8 f_5 16 0 ++ [Value.string x_6,
 Value.int IntKind.i64 x_7, Value.bool x_8, Value.bool x_9,
 Value.slice p_2 n_3 c_2, Value.string x_10]))
 2,
 Blk.mk n 56
 (arrI IntKind.u8 f_2 32 0 ++ (arrI IntKind.u8 f_3 16 0 ++ [Value.string x,
 Value.int IntKind.i64 x_1, Value.bool x_2, Value.bool x_3,
 Value.slice p_1 n_2 c_1, Value.string x_4]))
 0]
 w'_2 W →
 ∃ (base : Nat),
 ∃ (xs : List Value),
 W.ownsRow base 56 54 (Value.slice p n_1 c) n_1 xs ∧
 n_1 + 1 ≤ 9223372036854775807 ∧
 (n_1 + 1) * 120 ≤ 140737488355328 ∧
 base ≤ W.heap.size ∧
 ∀ (p' : Option Addr) (c' : Nat) (w'_3 : World),
 w'_3.ownsRow base 56 54 (Value.slice p' (n_1 + 1) c')
 (n_1 + 1)
 (xs ++
 (arrI IntKind.u8 f 32 0 ++ (arrI IntKind.u8 f_5 16 0 ++ [Value.string x_6,
 Value.int IntKind.i64 x_7, Value.bool x_8,
 Value.bool x_9, Value.slice p_2 n_3 c_2,
 Value.string x_10]))) →
 W.grownBy w'_3 (Value.slice p n_1 c).ownBlock →
 (n_1 + 1 ≤ c → p' = p ∧ c' = c) →
 KeptL [n] W w'_3 ∧
 I [Value.slice p' (n_1 + 1) c'] w'_3 ∧
 m [Value.slice p' (n_1 + 1) c'] w'_3 <
 m [Value.slice p n_1 c] w')
 (I [Value.slice p n_1 c] w'_1 ∧
 m [Value.slice p n_1 c] w'_1 < m [Value.slice p n_1 c] w'))
 (CallsS Tryz.prog 71 #[Value.slice p n_1 c, Value.func (Fn.func 72) #[] #[]] w1
 fun (e : Ending) (w' : World) =>
 e = Ending.returned (Value.tuple #[]) ∧ KeptL [] w1 w' ∧ R (Ending.returned (Value.slice p n_1 c)) w')
theorem vc_rpick (b : Nat) (f : FuncId) (fa : Array Value) (fb : Array Value) (w : World) (R : Ending → World → Prop) (h : VC_rpick b f fa fb w R) : Calls Tryz.prog 50 ([Value.pointer
    (some { block := b, off := 0 }),
  Value.func (Fn.func f) fa fb] : List Value).toArray w R := by
  have e : execR2 { P := Tryz.prog, loops := [(5, [(5, Ck.slice)])], pur := pur1, tails := [], joins := [], boxes := [], rngs := [(14, 96)] } Tryz.f50.results.toList R (Tryz.f50.body.getD .skip) (initF [Value.pointer
    (some { block := b, off := 0 }),
  Value.func (Fn.func f) fa
    fb] (Tryz.f50.ntmps - ([Value.pointer (some { block := b, off := 0 }),
  Value.func (Fn.func f) fa fb] : List Value).length)) w = VC_rpick b f fa fb w R := by kernel_rfl
  have hb : Tryz.f50.body = some (Tryz.f50.body.getD .skip) := by kernel_rfl
  exact calls_of_exec2' (P := Tryz.prog) (fn := Tryz.f50) (c := Tryz.f50.body.getD .skip) (args := [Value.pointer
    (some { block := b, off := 0 }),
  Value.func (Fn.func f) fa fb]) (w := w) (R := R) pur1_ok Tryz.func50 hb e h

end Go.Proofs.YtkkfnlehlkiejaaGreatDoor
