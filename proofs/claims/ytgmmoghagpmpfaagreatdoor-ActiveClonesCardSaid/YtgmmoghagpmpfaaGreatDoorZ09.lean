/- The formulas of functions by the symbolic evaluator, and that each gives the call's contract. Written by a program (gen.py). No condition. -/
import Derived.Test.YtgmmoghagpmpfaaGreatDoorProg
import Derived.Test.YtgmmoghagpmpfaaGreatDoorZ02
import Derived.Test.YtgmmoghagpmpfaaGreatDoorZ04
import Derived.KernelRfl
namespace Go.Proofs.YtgmmoghagpmpfaaGreatDoor
set_option maxRecDepth 100000
set_option linter.unusedVariables false

def VC_acxfind (p : Option Addr) (n : Nat) (c : Nat) (s : ByteArray) (w : World) (R : Ending → World → Prop) : Prop :=
 ∃ (I : List Value → World → Prop),
 ∃ (m : List Value → World → Nat),
 I [Value.int IntKind.i64 0] w ∧
 ∀ (x : Int) (w' : World),
 I [Value.int IntKind.i64 x] w' →
 bsp (decide (x < (↑n : Int)))
 (nn true p fun (b o : Nat) =>
 (0 ≤ x ∧ x < (↑n : Int)) ∧
 ∃ (x_1 : ByteArray),
 w'.cell? (Addr.mk b (o + x.toNat * 4) none) = some (Value.string x_1) ∧
 bsp (x_1.toList == s.toList) (R (Ending.returned (Value.int IntKind.i64 x)) w')
 (I [Value.int IntKind.i64 (IntKind.i64.wrap (x + 1))] w' ∧
 m [Value.int IntKind.i64 (IntKind.i64.wrap (x + 1))] w' < m [Value.int IntKind.i64 x] w'))
 (R (Ending.returned (Value.int IntKind.i64 (-1))) w')
theorem vc_acxfind (p : Option Addr) (n : Nat) (c : Nat) (s : ByteArray) (w : World) (R : Ending → World → Prop) (h : VC_acxfind p n c s w R) : Calls Tryz.prog 37 ([Value.slice
    p n c,
  Value.string s] : List Value).toArray w R := by
  have e : execR2 { P := Tryz.prog, loops := [(2, [(5, Ck.int IntKind.i64)])], pur := pur1, tails := [], joins := [], boxes := [] } Tryz.f37.results.toList R (Tryz.f37.body.getD .skip) (initF [Value.slice
    p n c,
  Value.string
    s] (Tryz.f37.ntmps - ([Value.slice p n c,
  Value.string s] : List Value).length)) w = VC_acxfind p n c s w R := by kernel_rfl
  have hb : Tryz.f37.body = some (Tryz.f37.body.getD .skip) := by kernel_rfl
  exact calls_of_exec2' (P := Tryz.prog) (fn := Tryz.f37) (c := Tryz.f37.body.getD .skip) (args := [Value.slice p n c,
  Value.string s]) (w := w) (R := R) pur1_ok Tryz.func37 hb e h

def VC_acxlow (s : ByteArray) (zh : Int) (p : Option Addr) (n : Nat) (c : Nat) (cl : Bool) (w : World) (R : Ending → World → Prop) : Prop :=
 ∀ (n_1 : Nat),
 bsp ((↑n : Int) == 0)
 (∀ (W : World),
 Loc w.heap.size [Blk.mk n_1 84 [Value.string s, Value.int IntKind.i64 zh, Value.slice p n c, Value.bool cl] 2] w W →
 R (Ending.returned (Value.int IntKind.i64 (IntKind.i64.wrap (zh + 1)))) W)
 (nn true p fun (b o : Nat) =>
 ((0 : Int) ≤ 0 ∧ 0 < (↑n : Int)) ∧
 ∃ (x : Int),
 (∀ (W : World),
 Loc w.heap.size [Blk.mk n_1 84 [Value.string s, Value.int IntKind.i64 zh, Value.slice p n c, Value.bool cl] 2] w
 W →
 W.cell? (Addr.mk b o none) = some (Value.int IntKind.i64 x)) ∧
 ∀ (W : World),
 Loc w.heap.size [Blk.mk n_1 84 [Value.string s, Value.int IntKind.i64 zh, Value.slice p n c, Value.bool cl] 2] w
 W →
 R (Ending.returned (Value.int IntKind.i64 x)) W)
theorem vc_acxlow (s : ByteArray) (zh : Int) (p : Option Addr) (n : Nat) (c : Nat) (cl : Bool) (w : World) (R : Ending → World → Prop) (h : VC_acxlow s zh p n c cl w R) : Calls Tryz.prog 56 ([Value.agg
    #[Value.string s, Value.int IntKind.i64 zh, Value.slice p n c, Value.bool cl]] : List Value).toArray w R := by
  have e : execR2 { P := Tryz.prog, loops := [], pur := pur1, tails := [], joins := [], boxes := [] } Tryz.f56.results.toList R (Tryz.f56.body.getD .skip) (initF [Value.agg
    #[Value.string s, Value.int IntKind.i64 zh, Value.slice p n c,
      Value.bool
        cl]] (Tryz.f56.ntmps - ([Value.agg
    #[Value.string s, Value.int IntKind.i64 zh, Value.slice p n c,
      Value.bool cl]] : List Value).length)) w = VC_acxlow s zh p n c cl w R := by kernel_rfl
  have hb : Tryz.f56.body = some (Tryz.f56.body.getD .skip) := by kernel_rfl
  exact calls_of_exec2' (P := Tryz.prog) (fn := Tryz.f56) (c := Tryz.f56.body.getD .skip) (args := [Value.agg
    #[Value.string s, Value.int IntKind.i64 zh, Value.slice p n c,
      Value.bool cl]]) (w := w) (R := R) pur1_ok Tryz.func56 hb e h

def VC_acxset (p : Option Addr) (n : Nat) (c : Nat) (i : Int) (s : ByteArray) (zh : Int) (q : Option Addr) (m : Nat) (d : Nat) (cl : Bool) (w : World) (R : Ending → World → Prop) : Prop :=
 ∀ (n_1 n_2 : Nat) (W : World),
 Loc w.heap.size
 [Blk.mk n_2 84 [] 2, Blk.mk n_1 84 [Value.string s, Value.int IntKind.i64 zh, Value.slice q m d, Value.bool cl] 2] w
 W →
 ∃ (base : Nat),
 ∃ (xs : List Value),
 ∃ (news : List Value),
 W.ownsRow base 84 4 (Value.slice (some (Addr.mk n_2 0 none)) 0 0) 0 xs ∧
 news.length = n * 4 ∧
 SrcP W p news ∧
 0 + n ≤ 9223372036854775807 ∧
 (0 + n) * 56 ≤ 140737488355328 ∧
 base ≤ W.heap.size ∧
 ∀ (p' : Option Addr) (c' : Nat) (w' : World),
 w'.ownsRow base 84 4 (Value.slice p' (0 + n) c') (0 + n) (xs ++ news) →
 W.grownBy w' (Value.slice (some (Addr.mk n_2 0 none)) 0 0).ownBlock →
 AppL W (some (Addr.mk n_2 0 none)) 0 0 n p' c' →
 KeptL [n_1] W w' ∧
 nn true p' fun (b o : Nat) =>
 (0 ≤ i ∧ i < (↑(0 + n) : Int)) ∧
 WrL w' b (o + i.toNat * 4) 4 ∧
 ∀ (w1 : World),
 PutB w' b (o + i.toNat * 4)
 [Value.string s, Value.int IntKind.i64 zh, Value.slice q m d, Value.bool cl] w1 →
 KeptL [n_1] w' w1 ∧ R (Ending.returned (Value.slice p' (0 + n) c')) w1
theorem vc_acxset (p : Option Addr) (n : Nat) (c : Nat) (i : Int) (s : ByteArray) (zh : Int) (q : Option Addr) (m : Nat) (d : Nat) (cl : Bool) (w : World) (R : Ending → World → Prop) (h : VC_acxset p n c i s zh q m d cl w R) : Calls Tryz.prog 62 ([Value.slice
    p n c,
  Value.int IntKind.i64 i,
  Value.agg
    #[Value.string s, Value.int IntKind.i64 zh, Value.slice q m d, Value.bool cl]] : List Value).toArray w R := by
  have e : execR2 { P := Tryz.prog, loops := [], pur := pur1, tails := [], joins := [], boxes := [] } Tryz.f62.results.toList R (Tryz.f62.body.getD .skip) (initF [Value.slice
    p n c,
  Value.int IntKind.i64 i,
  Value.agg
    #[Value.string s, Value.int IntKind.i64 zh, Value.slice q m d,
      Value.bool
        cl]] (Tryz.f62.ntmps - ([Value.slice p n c, Value.int IntKind.i64 i,
  Value.agg
    #[Value.string s, Value.int IntKind.i64 zh, Value.slice q m d,
      Value.bool cl]] : List Value).length)) w = VC_acxset p n c i s zh q m d cl w R := by kernel_rfl
  have hb : Tryz.f62.body = some (Tryz.f62.body.getD .skip) := by kernel_rfl
  exact calls_of_exec2' (P := Tryz.prog) (fn := Tryz.f62) (c := Tryz.f62.body.getD .skip) (args := [Value.slice p n c,
  Value.int IntKind.i64 i,
  Value.agg
    #[Value.string s, Value.int IntKind.i64 zh, Value.slice q m d,
      Value.bool cl]]) (w := w) (R := R) pur1_ok Tryz.func62 hb e h

def VC_acxopen (p : Option Addr) (n : Nat) (c : Nat) (s : ByteArray) (w : World) (R : Ending → World → Prop) : Prop :=
 CallsS Tryz.prog 72 #[Value.string s] w fun (e : Ending) (w' : World) =>
 ∃ (x : Int),
 e = Ending.returned (Value.int IntKind.i64 x) ∧
 KeptL [] w w' ∧
 bsp (x != 0) (R (Ending.returned (Value.tuple #[Value.slice p n c, Value.int IntKind.i64 x])) w')
 (CallsS Tryz.prog 37 #[Value.slice p n c, Value.string s] w' fun (e : Ending) (w'_1 : World) =>
 ∃ (x : Int),
 e = Ending.returned (Value.int IntKind.i64 x) ∧
 KeptL [] w' w'_1 ∧
 bsp (decide (x ≥ 0))
 (nn true p fun (b o : Nat) =>
 (0 ≤ x ∧ x < (↑n : Int)) ∧
 ∃ (x_1 : Bool),
 w'_1.cell? (Addr.mk b (o + x.toNat * 4 + 3) none) = some (Value.bool x_1) ∧
 bsp (!x_1) (R (Ending.returned (Value.tuple #[Value.slice p n c, Value.int IntKind.i64 7])) w'_1)
 (nn true p fun (b o : Nat) =>
 (0 ≤ x ∧ x < (↑n : Int)) ∧
 ∃ (x_2 : ByteArray),
 ∃ (x_3 : Int),
 ∃ (p_1 : Option Addr),
 ∃ (n_1 : Nat),
 ∃ (c_1 : Nat),
 ∃ (x_4 : Bool),
 AtL w'_1 b (o + x.toNat * 4)
 [Value.string x_2, Value.int IntKind.i64 x_3, Value.slice p_1 n_1 c_1, Value.bool x_4] ∧
 ∀ (n_2 : Nat) (W : World),
 Loc w.heap.size
 [Blk.mk n_2 84
 [Value.string x_2, Value.int IntKind.i64 x_3, Value.slice p_1 n_1 c_1, Value.bool false]
 (wrM (wrM 2))]
 w'_1 W →
 CallsS Tryz.prog 62
 #[Value.slice p n c, Value.int IntKind.i64 x,
 Value.agg
 #[Value.string x_2, Value.int IntKind.i64 x_3, Value.slice p_1 n_1 c_1, Value.bool false]]
 W fun (e : Ending) (w' : World) =>
 ∃ (p : Option Addr),
 ∃ (n : Nat),
 ∃ (c : Nat),
 e = Ending.returned (Value.slice p n c) ∧
 KeptL [n_2] W w' ∧
 R (Ending.returned (Value.tuple #[Value.slice p n c, Value.int IntKind.i64 0])) w'))
 (bsp (decide ((↑n : Int) ≥ 4096))
 (R (Ending.returned (Value.tuple #[Value.slice p n c, Value.int IntKind.i64 9])) w'_1)
 (∃ (I : List Value → World → Prop),
 ∃ (m : List Value → World → Nat),
 I [Value.int IntKind.i64 0] w'_1 ∧
 ∀ (x : Int) (w' : World),
 I [Value.int IntKind.i64 x] w' →
 nn (decide (x < (↑n : Int))) p fun (b o : Nat) =>
 gimp (decide (x < (↑n : Int))) (0 ≤ x ∧ x < (↑n : Int)) ∧
 ∃ (x_1 : ByteArray),
 gimp (decide (x < (↑n : Int)))
 (w'.cell? (Addr.mk b (o + x.toNat * 4) none) = some (Value.string x_1)) ∧
 bsp (decide (x < (↑n : Int)))
 (CallsS Tryz.prog 73 #[Value.string x_1, Value.string s] w' fun (e : Ending) (w'_2 : World) =>
 ∃ (x_2 : Int),
 e = Ending.returned (Value.int IntKind.i64 x_2) ∧
 KeptL [] w' w'_2 ∧
 bsp (true && decide (x_2 < 0))
 (I [Value.int IntKind.i64 (IntKind.i64.wrap (x + 1))] w'_2 ∧
 m [Value.int IntKind.i64 (IntKind.i64.wrap (x + 1))] w'_2 < m [Value.int IntKind.i64 x] w')
 (∀ (W : World),
 Loc w.heap.size [] w'_2 W →
 ∃ (S : World → Prop),
 S W ∧
 (0 ≤ x ∧ x ≤ (↑c : Int)) ∧
 (0 ≤ x ∧ x ≤ (↑n : Int)) ∧
 (∀ (n_1 : Nat) (w1 : World),
 NewB W (Obj.cells #[] 84) n_1 w1 →
 (∃ (base : Nat),
 ∃ (xs : List Value),
 ∃ (news : List Value),
 w1.ownsRow base 84 4 (Value.slice (some (Addr.mk n_1 0 none)) 0 0) 0 xs ∧
 news.length = x.toNat * 4 ∧
 SrcP w1 p news ∧
 0 + x.toNat ≤ 9223372036854775807 ∧
 (0 + x.toNat) * 56 ≤ 140737488355328 ∧
 base ≤ w1.heap.size ∧
 ∀ (p' : Option Addr) (c' : Nat) (w' : World),
 w'.ownsRow base 84 4 (Value.slice p' (0 + x.toNat) c') (0 + x.toNat)
 (xs ++ news) →
 w1.grownBy w' (Value.slice (some (Addr.mk n_1 0 none)) 0 0).ownBlock →
 AppL w1 (some (Addr.mk n_1 0 none)) 0 0 x.toNat p' c' →
 ∀ (n_2 : Nat) (w1 : World),
 NewB w'
 (Obj.cells
 #[Value.string s, Value.int IntKind.i64 0, Value.slice none 0 0,
 Value.bool false]
 84)
 n_2 w1 →
 ∃ (base : Nat),
 ∃ (xs : List Value),
 ∃ (news : List Value),
 w1.ownsRow base 84 4 (Value.slice p' (0 + x.toNat) c')
 (0 + x.toNat) xs ∧
 news.length = 4 ∧
 SrcP w1 (some (Addr.mk n_2 0 none)) news ∧
 0 + x.toNat + 1 ≤ 9223372036854775807 ∧
 (0 + x.toNat + 1) * 56 ≤ 140737488355328 ∧
 base ≤ w1.heap.size ∧
 ∀ (p'_1 : Option Addr) (c'_1 : Nat) (w' : World),
 w'.ownsRow base 84 4
 (Value.slice p'_1 (0 + x.toNat + 1) c'_1)
 (0 + x.toNat + 1) (xs ++ news) →
 w1.grownBy w' (Value.slice p' (0 + x.toNat) c').ownBlock →
 AppL w1 p' (0 + x.toNat) c' 1 p'_1 c'_1 →
 ∃ (base : Nat),
 ∃ (xs : List Value),
 ∃ (news : List Value),
 w'.ownsRow base 84 4
 (Value.slice p'_1 (0 + x.toNat + 1) c'_1)
 (0 + x.toNat + 1) xs ∧
 news.length = (n - x.toNat) * 4 ∧
 SrcP w' (slA p c x.toNat 4) news ∧
 0 + x.toNat + 1 + (n - x.toNat) ≤
 9223372036854775807 ∧
 (0 + x.toNat + 1 + (n - x.toNat)) * 56 ≤
 140737488355328 ∧
 base ≤ w'.heap.size ∧
 ∀ (p' : Option Addr) (c' : Nat) (w'_3 : World),
 w'_3.ownsRow base 84 4
 (Value.slice p'
 (0 + x.toNat + 1 + (n - x.toNat)) c')
 (0 + x.toNat + 1 + (n - x.toNat))
 (xs ++ news) →
 w'.grownBy w'_3
 (Value.slice p'_1 (0 + x.toNat + 1)
 c'_1).ownBlock →
 AppL w' p'_1 (0 + x.toNat + 1) c'_1
 (n - x.toNat) p' c' →
 KeptL [] W w'_3 ∧
 R
 (Ending.returned
 (Value.tuple
 #[Value.slice p'
 (0 + x.toNat + 1 + (n - x.toNat)) c',
 Value.int IntKind.i64 0]))
 w'_3) ∧
 ∀ (n_2 : Nat) (w1_1 : World),
 NewB w1
 (Obj.cells
 #[Value.string s, Value.int IntKind.i64 0, Value.slice none 0 0,
 Value.bool false]
 84)
 n_2 w1_1 →
 ∃ (base : Nat),
 ∃ (xs : List Value),
 ∃ (news : List Value),
 w1_1.ownsRow base 84 4 (Value.slice (some (Addr.mk n_1 0 none)) 0 0) 0 xs ∧
 news.length = x.toNat * 4 ∧
 SrcP w1_1 p news ∧
 0 + x.toNat ≤ 9223372036854775807 ∧
 (0 + x.toNat) * 56 ≤ 140737488355328 ∧
 base ≤ w1_1.heap.size ∧
 ∀ (p' : Option Addr) (c' : Nat) (w' : World),
 w'.ownsRow base 84 4 (Value.slice p' (0 + x.toNat) c') (0 + x.toNat)
 (xs ++ news) →
 w1_1.grownBy w'
 (Value.slice (some (Addr.mk n_1 0 none)) 0 0).ownBlock →
 AppL w1_1 (some (Addr.mk n_1 0 none)) 0 0 x.toNat p' c' →
 ∃ (base : Nat),
 ∃ (xs : List Value),
 ∃ (news : List Value),
 w'.ownsRow base 84 4 (Value.slice p' (0 + x.toNat) c')
 (0 + x.toNat) xs ∧
 news.length = 4 ∧
 SrcP w' (some (Addr.mk n_2 0 none)) news ∧
 0 + x.toNat + 1 ≤ 9223372036854775807 ∧
 (0 + x.toNat + 1) * 56 ≤ 140737488355328 ∧
 base ≤ w'.heap.size ∧
 ∀ (p'_1 : Option Addr) (c'_1 : Nat) (w'_3 : World),
 w'_3.ownsRow base 84 4
 (Value.slice p'_1 (0 + x.toNat + 1) c'_1)
 (0 + x.toNat + 1) (xs ++ news) →
 w'.grownBy w'_3
 (Value.slice p' (0 + x.toNat) c').ownBlock →
 AppL w' p' (0 + x.toNat) c' 1 p'_1 c'_1 →
 ∃ (base : Nat),
 ∃ (xs : List Value),
 ∃ (news : List Value),
 w'_3.ownsRow base 84 4
 (Value.slice p'_1 (0 + x.toNat + 1) c'_1)
 (0 + x.toNat + 1) xs ∧
 news.length = (n - x.toNat) * 4 ∧
 SrcP w'_3 (slA p c x.toNat 4) news ∧
 0 + x.toNat + 1 + (n - x.toNat) ≤
 9223372036854775807 ∧
 (0 + x.toNat + 1 + (n - x.toNat)) * 56 ≤
 140737488355328 ∧
 base ≤ w'_3.heap.size ∧
 ∀ (p' : Option Addr) (c' : Nat) (w' : World),
 w'.ownsRow base 84 4
 (Value.slice p'
 (0 + x.toNat + 1 + (n - x.toNat)) c')
 (0 + x.toNat + 1 + (n - x.toNat))
 (xs ++ news) →
 w'_3.grownBy w'
 (Value.slice p'_1 (0 + x.toNat + 1)
 c'_1).ownBlock →
 AppL w'_3 p'_1 (0 + x.toNat + 1) c'_1
 (n - x.toNat) p' c' →
 KeptL [] W w' ∧
 R
 (Ending.returned
 (Value.tuple
 #[Value.slice p'
 (0 + x.toNat + 1 + (n - x.toNat)) c',
 Value.int IntKind.i64 0]))
 w') ∧
 ∀ (n_1 : Nat) (w1 : World),
 NewB W
 (Obj.cells
 #[Value.string s, Value.int IntKind.i64 0, Value.slice none 0 0, Value.bool false]
 84)
 n_1 w1 →
 ∀ (n_2 : Nat) (w1_1 : World),
 NewB w1 (Obj.cells #[] 84) n_2 w1_1 →
 ∃ (base : Nat),
 ∃ (xs : List Value),
 ∃ (news : List Value),
 w1_1.ownsRow base 84 4 (Value.slice (some (Addr.mk n_2 0 none)) 0 0) 0 xs ∧
 news.length = x.toNat * 4 ∧
 SrcP w1_1 p news ∧
 0 + x.toNat ≤ 9223372036854775807 ∧
 (0 + x.toNat) * 56 ≤ 140737488355328 ∧
 base ≤ w1_1.heap.size ∧
 ∀ (p' : Option Addr) (c' : Nat) (w' : World),
 w'.ownsRow base 84 4 (Value.slice p' (0 + x.toNat) c') (0 + x.toNat)
 (xs ++ news) →
 w1_1.grownBy w' (Value.slice (some (Addr.mk n_2 0 none)) 0 0).ownBlock →
 AppL w1_1 (some (Addr.mk n_2 0 none)) 0 0 x.toNat p' c' →
 ∃ (base : Nat),
 ∃ (xs : List Value),
 ∃ (news : List Value),
 w'.ownsRow base 84 4 (Value.slice p' (0 + x.toNat) c')
 (0 + x.toNat) xs ∧
 news.length = 4 ∧
 SrcP w' (some (Addr.mk n_1 0 none)) news ∧
 0 + x.toNat + 1 ≤ 9223372036854775807 ∧
 (0 + x.toNat + 1) * 56 ≤ 140737488355328 ∧
 base ≤ w'.heap.size ∧
 ∀ (p'_1 : Option Addr) (c'_1 : Nat) (w'_3 : World),
 w'_3.ownsRow base 84 4
 (Value.slice p'_1 (0 + x.toNat + 1) c'_1)
 (0 + x.toNat + 1) (xs ++ news) →
 w'.grownBy w'_3
 (Value.slice p' (0 + x.toNat) c').ownBlock →
 AppL w' p' (0 + x.toNat) c' 1 p'_1 c'_1 →
 ∃ (base : Nat),
 ∃ (xs : List Value),
 ∃ (news : List Value),
 w'_3.ownsRow base 84 4
 (Value.slice p'_1 (0 + x.toNat + 1) c'_1)
 (0 + x.toNat + 1) xs ∧
 news.length = (n - x.toNat) * 4 ∧
 SrcP w'_3 (slA p c x.toNat 4) news ∧
 0 + x.toNat + 1 + (n - x.toNat) ≤
 9223372036854775807 ∧
 (0 + x.toNat + 1 + (n - x.toNat)) * 56 ≤
 140737488355328 ∧
 base ≤ w'_3.heap.size ∧
 ∀ (p' : Option Addr) (c' : Nat) (w' : World),
 w'.ownsRow base 84 4
 (Value.slice p'
 (0 + x.toNat + 1 + (n - x.toNat)) c')
 (0 + x.toNat + 1 + (n - x.toNat))
 (xs ++ news) →
 w'_3.grownBy w'
 (Value.slice p'_1 (0 + x.toNat + 1)
 c'_1).ownBlock →
 AppL w'_3 p'_1 (0 + x.toNat + 1) c'_1
 (n - x.toNat) p' c' →
 KeptL [] W w' ∧
 R
 (Ending.returned
 (Value.tuple
 #[Value.slice p'
 (0 + x.toNat + 1 + (n - x.toNat)) c',
 Value.int IntKind.i64 0]))
 w'))
 (KeptL [] w' w' ∧
 ∀ (W : World),
 Loc w.heap.size [] w' W →
 ∃ (S : World → Prop),
 S W ∧
 (0 ≤ x ∧ x ≤ (↑c : Int)) ∧
 (0 ≤ x ∧ x ≤ (↑n : Int)) ∧
 (∀ (n_1 : Nat) (w1 : World),
 NewB W (Obj.cells #[] 84) n_1 w1 →
 (∃ (base : Nat),
 ∃ (xs : List Value),
 ∃ (news : List Value),
 w1.ownsRow base 84 4 (Value.slice (some (Addr.mk n_1 0 none)) 0 0) 0 xs ∧
 news.length = x.toNat * 4 ∧
 SrcP w1 p news ∧
 0 + x.toNat ≤ 9223372036854775807 ∧
 (0 + x.toNat) * 56 ≤ 140737488355328 ∧
 base ≤ w1.heap.size ∧
 ∀ (p' : Option Addr) (c' : Nat) (w' : World),
 w'.ownsRow base 84 4 (Value.slice p' (0 + x.toNat) c') (0 + x.toNat)
 (xs ++ news) →
 w1.grownBy w' (Value.slice (some (Addr.mk n_1 0 none)) 0 0).ownBlock →
 AppL w1 (some (Addr.mk n_1 0 none)) 0 0 x.toNat p' c' →
 ∀ (n_2 : Nat) (w1 : World),
 NewB w'
 (Obj.cells
 #[Value.string s, Value.int IntKind.i64 0, Value.slice none 0 0,
 Value.bool false]
 84)
 n_2 w1 →
 ∃ (base : Nat),
 ∃ (xs : List Value),
 ∃ (news : List Value),
 w1.ownsRow base 84 4 (Value.slice p' (0 + x.toNat) c') (0 + x.toNat)
 xs ∧
 news.length = 4 ∧
 SrcP w1 (some (Addr.mk n_2 0 none)) news ∧
 0 + x.toNat + 1 ≤ 9223372036854775807 ∧
 (0 + x.toNat + 1) * 56 ≤ 140737488355328 ∧
 base ≤ w1.heap.size ∧
 ∀ (p'_1 : Option Addr) (c'_1 : Nat) (w' : World),
 w'.ownsRow base 84 4 (Value.slice p'_1 (0 + x.toNat + 1) c'_1)
 (0 + x.toNat + 1) (xs ++ news) →
 w1.grownBy w' (Value.slice p' (0 + x.toNat) c').ownBlock →
 AppL w1 p' (0 + x.toNat) c' 1 p'_1 c'_1 →
 ∃ (base : Nat),
 ∃ (xs : List Value),
 ∃ (news : List Value),
 w'.ownsRow base 84 4
 (Value.slice p'_1 (0 + x.toNat + 1) c'_1)
 (0 + x.toNat + 1) xs ∧
 news.length = (n - x.toNat) * 4 ∧
 SrcP w' (slA p c x.toNat 4) news ∧
 0 + x.toNat + 1 + (n - x.toNat) ≤
 9223372036854775807 ∧
 (0 + x.toNat + 1 + (n - x.toNat)) * 56 ≤
 140737488355328 ∧
 base ≤ w'.heap.size ∧
 ∀ (p' : Option Addr) (c' : Nat) (w'_2 : World),
 w'_2.ownsRow base 84 4
 (Value.slice p'
 (0 + x.toNat + 1 + (n - x.toNat)) c')
 (0 + x.toNat + 1 + (n - x.toNat)) (xs ++ news) →
 w'.grownBy w'_2
 (Value.slice p'_1 (0 + x.toNat + 1)
 c'_1).ownBlock →
 AppL w' p'_1 (0 + x.toNat + 1) c'_1
 (n - x.toNat) p' c' →
 KeptL [] W w'_2 ∧
 R
 (Ending.returned
 (Value.tuple
 #[Value.slice p'
 (0 + x.toNat + 1 + (n - x.toNat)) c',
 Value.int IntKind.i64 0]))
 w'_2) ∧
 ∀ (n_2 : Nat) (w1_1 : World),
 NewB w1
 (Obj.cells
 #[Value.string s, Value.int IntKind.i64 0, Value.slice none 0 0, Value.bool false]
 84)
 n_2 w1_1 →
 ∃ (base : Nat),
 ∃ (xs : List Value),
 ∃ (news : List Value),
 w1_1.ownsRow base 84 4 (Value.slice (some (Addr.mk n_1 0 none)) 0 0) 0 xs ∧
 news.length = x.toNat * 4 ∧
 SrcP w1_1 p news ∧
 0 + x.toNat ≤ 9223372036854775807 ∧
 (0 + x.toNat) * 56 ≤ 140737488355328 ∧
 base ≤ w1_1.heap.size ∧
 ∀ (p' : Option Addr) (c' : Nat) (w' : World),
 w'.ownsRow base 84 4 (Value.slice p' (0 + x.toNat) c') (0 + x.toNat)
 (xs ++ news) →
 w1_1.grownBy w' (Value.slice (some (Addr.mk n_1 0 none)) 0 0).ownBlock →
 AppL w1_1 (some (Addr.mk n_1 0 none)) 0 0 x.toNat p' c' →
 ∃ (base : Nat),
 ∃ (xs : List Value),
 ∃ (news : List Value),
 w'.ownsRow base 84 4 (Value.slice p' (0 + x.toNat) c') (0 + x.toNat)
 xs ∧
 news.length = 4 ∧
 SrcP w' (some (Addr.mk n_2 0 none)) news ∧
 0 + x.toNat + 1 ≤ 9223372036854775807 ∧
 (0 + x.toNat + 1) * 56 ≤ 140737488355328 ∧
 base ≤ w'.heap.size ∧
 ∀ (p'_1 : Option Addr) (c'_1 : Nat) (w'_2 : World),
 w'_2.ownsRow base 84 4
 (Value.slice p'_1 (0 + x.toNat + 1) c'_1) (0 + x.toNat + 1)
 (xs ++ news) →
 w'.grownBy w'_2 (Value.slice p' (0 + x.toNat) c').ownBlock →
 AppL w' p' (0 + x.toNat) c' 1 p'_1 c'_1 →
 ∃ (base : Nat),
 ∃ (xs : List Value),
 ∃ (news : List Value),
 w'_2.ownsRow base 84 4
 (Value.slice p'_1 (0 + x.toNat + 1) c'_1)
 (0 + x.toNat + 1) xs ∧
 news.length = (n - x.toNat) * 4 ∧
 SrcP w'_2 (slA p c x.toNat 4) news ∧
 0 + x.toNat + 1 + (n - x.toNat) ≤
 9223372036854775807 ∧
 (0 + x.toNat + 1 + (n - x.toNat)) * 56 ≤
 140737488355328 ∧
 base ≤ w'_2.heap.size ∧
 ∀ (p' : Option Addr) (c' : Nat) (w' : World),
 w'.ownsRow base 84 4
 (Value.slice p'
 (0 + x.toNat + 1 + (n - x.toNat)) c')
 (0 + x.toNat + 1 + (n - x.toNat)) (xs ++ news) →
 w'_2.grownBy w'
 (Value.slice p'_1 (0 + x.toNat + 1)
 c'_1).ownBlock →
 AppL w'_2 p'_1 (0 + x.toNat + 1) c'_1
 (n - x.toNat) p' c' →
 KeptL [] W w' ∧
 R
 (Ending.returned
 (Value.tuple
 #[Value.slice p'
 (0 + x.toNat + 1 + (n - x.toNat)) c',
 Value.int IntKind.i64 0]))
 w') ∧
 ∀ (n_1 : Nat) (w1 : World),
 NewB W
 (Obj.cells
 #[Value.string s, Value.int IntKind.i64 0, Value.slice none 0 0, Value.bool false] 84)
 n_1 w1 →
 ∀ (n_2 : Nat) (w1_1 : World),
 NewB w1 (Obj.cells #[] 84) n_2 w1_1 →
 ∃ (base : Nat),
 ∃ (xs : List Value),
 ∃ (news : List Value),
 w1_1.ownsRow base 84 4 (Value.slice (some (Addr.mk n_2 0 none)) 0 0) 0 xs ∧
 news.length = x.toNat * 4 ∧
 SrcP w1_1 p news ∧
 0 + x.toNat ≤ 9223372036854775807 ∧
 (0 + x.toNat) * 56 ≤ 140737488355328 ∧
 base ≤ w1_1.heap.size ∧
 ∀ (p' : Option Addr) (c' : Nat) (w' : World),
 w'.ownsRow base 84 4 (Value.slice p' (0 + x.toNat) c') (0 + x.toNat)
 (xs ++ news) →
 w1_1.grownBy w' (Value.slice (some (Addr.mk n_2 0 none)) 0 0).ownBlock →
 AppL w1_1 (some (Addr.mk n_2 0 none)) 0 0 x.toNat p' c' →
 ∃ (base : Nat),
 ∃ (xs : List Value),
 ∃ (news : List Value),
 w'.ownsRow base 84 4 (Value.slice p' (0 + x.toNat) c') (0 + x.toNat)
 xs ∧
 news.length = 4 ∧
 SrcP w' (some (Addr.mk n_1 0 none)) news ∧
 0 + x.toNat + 1 ≤ 9223372036854775807 ∧
 (0 + x.toNat + 1) * 56 ≤ 140737488355328 ∧
 base ≤ w'.heap.size ∧
 ∀ (p'_1 : Option Addr) (c'_1 : Nat) (w'_2 : World),
 w'_2.ownsRow base 84 4 (Value.slice p'_1 (0 + x.toNat + 1) c'_1)
 (0 + x.toNat + 1) (xs ++ news) →
 w'.grownBy w'_2 (Value.slice p' (0 + x.toNat) c').ownBlock →
 AppL w' p' (0 + x.toNat) c' 1 p'_1 c'_1 →
 ∃ (base : Nat),
 ∃ (xs : List Value),
 ∃ (news : List Value),
 w'_2.ownsRow base 84 4
 (Value.slice p'_1 (0 + x.toNat + 1) c'_1)
 (0 + x.toNat + 1) xs ∧
 news.length = (n - x.toNat) * 4 ∧
 SrcP w'_2 (slA p c x.toNat 4) news ∧
 0 + x.toNat + 1 + (n - x.toNat) ≤ 9223372036854775807 ∧
 (0 + x.toNat + 1 + (n - x.toNat)) * 56 ≤
 140737488355328 ∧
 base ≤ w'_2.heap.size ∧
 ∀ (p' : Option Addr) (c' : Nat) (w' : World),
 w'.ownsRow base 84 4
 (Value.slice p' (0 + x.toNat + 1 + (n - x.toNat))
 c')
 (0 + x.toNat + 1 + (n - x.toNat)) (xs ++ news) →
 w'_2.grownBy w'
 (Value.slice p'_1 (0 + x.toNat + 1)
 c'_1).ownBlock →
 AppL w'_2 p'_1 (0 + x.toNat + 1) c'_1
 (n - x.toNat) p' c' →
 KeptL [] W w' ∧
 R
 (Ending.returned
 (Value.tuple
 #[Value.slice p'
 (0 + x.toNat + 1 + (n - x.toNat)) c',
 Value.int IntKind.i64 0]))
 w'))))
theorem vc_acxopen (p : Option Addr) (n : Nat) (c : Nat) (s : ByteArray) (w : World) (R : Ending → World → Prop) (h : VC_acxopen p n c s w R) : Calls Tryz.prog 53 ([Value.slice
    p n c,
  Value.string s] : List Value).toArray w R := by
  have e : execR2 { P := Tryz.prog, loops := [(14, [(9, Ck.int IntKind.i64)])], pur := pur1, tails := [(16, 0)], joins := [], boxes := [] } Tryz.f53.results.toList R (Tryz.f53.body.getD .skip) (initF [Value.slice
    p n c,
  Value.string
    s] (Tryz.f53.ntmps - ([Value.slice p n c,
  Value.string s] : List Value).length)) w = VC_acxopen p n c s w R := by kernel_rfl
  have hb : Tryz.f53.body = some (Tryz.f53.body.getD .skip) := by kernel_rfl
  exact calls_of_exec2' (P := Tryz.prog) (fn := Tryz.f53) (c := Tryz.f53.body.getD .skip) (args := [Value.slice p n c,
  Value.string s]) (w := w) (R := R) pur1_ok Tryz.func53 hb e h

def VC_acxclose (p : Option Addr) (n : Nat) (c : Nat) (s : ByteArray) (w : World) (R : Ending → World → Prop) : Prop :=
 CallsS Tryz.prog 37 #[Value.slice p n c, Value.string s] w fun (e : Ending) (w' : World) =>
 ∃ (x : Int),
 e = Ending.returned (Value.int IntKind.i64 x) ∧
 KeptL [] w w' ∧
 bsp (decide (x < 0)) (R (Ending.returned (Value.tuple #[Value.slice p n c, Value.int IntKind.i64 8])) w')
 (nn true p fun (b o : Nat) =>
 (0 ≤ x ∧ x < (↑n : Int)) ∧
 ∃ (x_1 : Bool),
 w'.cell? (Addr.mk b (o + x.toNat * 4 + 3) none) = some (Value.bool x_1) ∧
 bsp x_1 (R (Ending.returned (Value.tuple #[Value.slice p n c, Value.int IntKind.i64 10])) w')
 (nn true p fun (b o : Nat) =>
 (0 ≤ x ∧ x < (↑n : Int)) ∧
 ∃ (x_2 : ByteArray),
 ∃ (x_3 : Int),
 ∃ (p_1 : Option Addr),
 ∃ (n_1 : Nat),
 ∃ (c_1 : Nat),
 ∃ (x_4 : Bool),
 AtL w' b (o + x.toNat * 4)
 [Value.string x_2, Value.int IntKind.i64 x_3, Value.slice p_1 n_1 c_1, Value.bool x_4] ∧
 ∀ (n_2 : Nat) (W : World),
 Loc w.heap.size
 [Blk.mk n_2 84
 [Value.string x_2, Value.int IntKind.i64 x_3, Value.slice p_1 n_1 c_1, Value.bool true]
 (wrM (wrM 2))]
 w' W →
 CallsS Tryz.prog 62
 #[Value.slice p n c, Value.int IntKind.i64 x,
 Value.agg
 #[Value.string x_2, Value.int IntKind.i64 x_3, Value.slice p_1 n_1 c_1, Value.bool true]]
 W fun (e : Ending) (w' : World) =>
 ∃ (p : Option Addr),
 ∃ (n : Nat),
 ∃ (c : Nat),
 e = Ending.returned (Value.slice p n c) ∧
 KeptL [n_2] W w' ∧
 R (Ending.returned (Value.tuple #[Value.slice p n c, Value.int IntKind.i64 0])) w'))
theorem vc_acxclose (p : Option Addr) (n : Nat) (c : Nat) (s : ByteArray) (w : World) (R : Ending → World → Prop) (h : VC_acxclose p n c s w R) : Calls Tryz.prog 54 ([Value.slice
    p n c,
  Value.string s] : List Value).toArray w R := by
  have e : execR2 { P := Tryz.prog, loops := [], pur := pur1, tails := [], joins := [], boxes := [] } Tryz.f54.results.toList R (Tryz.f54.body.getD .skip) (initF [Value.slice
    p n c,
  Value.string
    s] (Tryz.f54.ntmps - ([Value.slice p n c,
  Value.string s] : List Value).length)) w = VC_acxclose p n c s w R := by kernel_rfl
  have hb : Tryz.f54.body = some (Tryz.f54.body.getD .skip) := by kernel_rfl
  exact calls_of_exec2' (P := Tryz.prog) (fn := Tryz.f54) (c := Tryz.f54.body.getD .skip) (args := [Value.slice p n c,
  Value.string s]) (w := w) (R := R) pur1_ok Tryz.func54 hb e h

def VC_acxassign (p : Option Addr) (n : Nat) (c : Nat) (q : Option Addr) (m : Nat) (d : Nat) (w : World) (R : Ending → World → Prop) : Prop :=
 bsp ((↑m : Int) == 0)
 (R (Ending.returned (Value.tuple #[Value.slice p n c, Value.slice none 0 0, Value.int IntKind.i64 1])) w)
 (∃ (I : List Value → World → Prop),
 ∃ (m_1 : List Value → World → Nat),
 I [Value.int IntKind.i64 0] w ∧
 ∀ (x : Int) (w' : World),
 I [Value.int IntKind.i64 x] w' →
 bsp (decide (x < (↑m : Int)))
 (∃ (I_1 : List Value → World → Prop),
 ∃ (m_2 : List Value → World → Nat),
 I_1 [Value.int IntKind.i64 0] w' ∧
 ∀ (x_1 : Int) (w'_1 : World),
 I_1 [Value.int IntKind.i64 x_1] w'_1 →
 bsp (decide (x_1 < x))
 (nn true q fun (b o : Nat) =>
 (0 ≤ x ∧ x < (↑m : Int)) ∧
 ∃ (x_2 : ByteArray),
 (∀ (W : World),
 Loc w.heap.size [] w'_1 W → W.cell? (Addr.mk b (o + x.toNat) none) = some (Value.string x_2)) ∧
 nn true q fun (b o : Nat) =>
 (0 ≤ x_1 ∧ x_1 < (↑m : Int)) ∧
 ∃ (x : ByteArray),
 (∀ (W : World),
 Loc w.heap.size [] w'_1 W → W.cell? (Addr.mk b (o + x_1.toNat) none) = some (Value.string x)) ∧
 bsp (x_2.toList == x.toList)
 (∀ (W : World),
 Loc w.heap.size [] w'_1 W →
 R
 (Ending.returned
 (Value.tuple #[Value.slice p n c, Value.slice none 0 0, Value.int IntKind.i64 7]))
 W)
 (∀ (W : World),
 Loc w.heap.size [] w'_1 W →
 I_1 [Value.int IntKind.i64 (IntKind.i64.wrap (x_1 + 1))] W ∧
 m_2 [Value.int IntKind.i64 (IntKind.i64.wrap (x_1 + 1))] W <
 m_2 [Value.int IntKind.i64 x_1] w'_1))
 (I [Value.int IntKind.i64 (IntKind.i64.wrap (x + 1))] w'_1 ∧
 m_1 [Value.int IntKind.i64 (IntKind.i64.wrap (x + 1))] w'_1 < m_1 [Value.int IntKind.i64 x] w'))
 (∃ (I : List Value → World → Prop),
 ∃ (m_2 : List Value → World → Nat),
 I [Value.int IntKind.i64 0, Value.slice none 0 0, Value.slice p n c] w' ∧
 ∀ (x : Int) (p_1 : Option Addr) (n_1 c_1 : Nat) (p_2 : Option Addr) (n_2 c_2 : Nat) (w' : World),
 I [Value.int IntKind.i64 x, Value.slice p_1 n_1 c_1, Value.slice p_2 n_2 c_2] w' →
 bsp (decide (x < (↑m : Int)))
 (nn true q fun (b o : Nat) =>
 (0 ≤ x ∧ x < (↑m : Int)) ∧
 ∃ (x_1 : ByteArray),
 w'.cell? (Addr.mk b (o + x.toNat) none) = some (Value.string x_1) ∧
 CallsS Tryz.prog 37 #[Value.slice p_2 n_2 c_2, Value.string x_1] w' fun (e : Ending) (w'_1 : World) =>
 ∃ (x_2 : Int),
 e = Ending.returned (Value.int IntKind.i64 x_2) ∧
 KeptL [] w' w'_1 ∧
 bsp (decide (x_2 < 0))
 (R
 (Ending.returned
 (Value.tuple #[Value.slice p n c, Value.slice none 0 0, Value.int IntKind.i64 8]))
 w'_1)
 (nn true p_2 fun (b o : Nat) =>
 (0 ≤ x_2 ∧ x_2 < (↑n_2 : Int)) ∧
 ∃ (x_3 : ByteArray),
 ∃ (x_4 : Int),
 ∃ (p_3 : Option Addr),
 ∃ (n_3 : Nat),
 ∃ (c_3 : Nat),
 ∃ (x_5 : Bool),
 AtL w'_1 b (o + x_2.toNat * 4)
 [Value.string x_3, Value.int IntKind.i64 x_4, Value.slice p_3 n_3 c_3, Value.bool x_5] ∧
 ∀ (n_4 : Nat),
 bsp x_5
 (∀ (W : World),
 Loc w.heap.size
 [Blk.mk n_4 84
 [Value.string x_3, Value.int IntKind.i64 x_4, Value.slice p_3 n_3 c_3,
 Value.bool x_5]
 (wrM 2)]
 w'_1 W →
 R
 (Ending.returned
 (Value.tuple #[Value.slice p n c, Value.slice none 0 0, Value.int IntKind.i64 10]))
 W)
 (bsp (x_4 == 2147483646)
 (∀ (W : World),
 Loc w.heap.size
 [Blk.mk n_4 84
 [Value.string x_3, Value.int IntKind.i64 x_4, Value.slice p_3 n_3 c_3,
 Value.bool x_5]
 (wrM 2)]
 w'_1 W →
 R
 (Ending.returned
 (Value.tuple #[Value.slice p n c, Value.slice none 0 0, Value.int IntKind.i64 9]))
 W)
 (∀ (W : World),
 Loc w.heap.size
 [Blk.mk n_4 84
 [Value.string x_3, Value.int IntKind.i64 (IntKind.i64.wrap (x_4 + 1)),
 Value.slice p_3 n_3 c_3, Value.bool x_5]
 (wrM (wrM 2))]
 w'_1 W →
 ∃ (S : World → Prop),
 S W ∧
 ∃ (p : Option Addr),
 ∃ (n : Nat),
 ∃ (c : Nat),
 (∀ (w' : World),
 S w' → w'.cell? (Addr.mk n_4 (0 + 2) none) = some (Value.slice p n c)) ∧
 ∃ (x_6 : Int),
 (∀ (w' : World),
 S w' →
 w'.cell? (Addr.mk n_4 (0 + 1) none) = some (Value.int IntKind.i64 x_6)) ∧
 (∀ (n_5 : Nat) (w1 : World),
 NewB W (Obj.cells #[] 3) n_5 w1 →
 S w1 ∧
 (∃ (base : Nat),
 ∃ (xs : List Value),
 ∃ (news : List Value),
 w1.ownsRow base 3 1 (Value.slice (some (Addr.mk n_5 0 none)) 0 0) 0
 xs ∧
 news.length = n * 1 ∧
 SrcP w1 p news ∧
 0 + n ≤ 9223372036854775807 ∧
 (0 + n) * 8 ≤ 140737488355328 ∧
 base ≤ w1.heap.size ∧
 ∀ (p' : Option Addr) (c' : Nat) (w'_2 : World),
 w'_2.ownsRow base 3 1 (Value.slice p' (0 + n) c') (0 + n)
 (xs ++ news) →
 w1.grownBy w'_2
 (Value.slice (some (Addr.mk n_5 0 none)) 0 0).ownBlock →
 AppL w1 (some (Addr.mk n_5 0 none)) 0 0 n p' c' →
 S w'_2 ∧
 ∀ (n_6 : Nat) (w1 : World),
 NewB w'_2 (Obj.cells #[Value.int IntKind.i64 x_6] 3) n_6
 w1 →
 S w1 ∧
 ∃ (base : Nat),
 ∃ (xs : List Value),
 ∃ (news : List Value),
 w1.ownsRow base 3 1 (Value.slice p' (0 + n) c')
 (0 + n) xs ∧
 news.length = 1 ∧
 SrcP w1 (some (Addr.mk n_6 0 none)) news ∧
 0 + n + 1 ≤ 9223372036854775807 ∧
 (0 + n + 1) * 8 ≤ 140737488355328 ∧
 base ≤ w1.heap.size ∧
 ∀ (p'_1 : Option Addr) (c'_1 : Nat)
 (w'_3 : World),
 w'_3.ownsRow base 3 1
 (Value.slice p'_1 (0 + n + 1) c'_1)
 (0 + n + 1) (xs ++ news) →
 w1.grownBy w'_3
 (Value.slice p' (0 + n) c').ownBlock →
 AppL w1 p' (0 + n) c' 1 p'_1 c'_1 →
 ((∃ (u : Value),
 w'_3.cell?
 (Addr.mk n_4 (0 + 2) none) =
 some u) ∧
 w'_3.frozen?
 (Addr.mk n_4 (0 + 2) none) =
 false) ∧
 ∀ (w1 : World),
 PutB w'_3 n_4 (0 + 2)
 [Value.slice p'_1 (0 + n + 1) c'_1]
 w1 →
 KeptL [] W w1 ∧
 ∃ (x_7 : ByteArray),
 ∃ (x_8 : Int),
 ∃ (p : Option Addr),
 ∃ (n : Nat),
 ∃ (c : Nat),
 ∃ (x_9 : Bool),
 AtL w1 n_4 0
 [Value.string x_7,
 Value.int IntKind.i64 x_8,
 Value.slice p n c,
 Value.bool x_9] ∧
 CallsS Tryz.prog 62
 #[Value.slice p_2 n_2 c_2,
 Value.int IntKind.i64 x_2,
 Value.agg
 #[Value.string x_7,
 Value.int IntKind.i64 x_8,
 Value.slice p n c,
 Value.bool x_9]]
 w1
 fun (e : Ending)
 (w'_4 : World) =>
 ∃ (p : Option Addr),
 ∃ (n : Nat),
 ∃ (c : Nat),
 e =
 Ending.returned
 (Value.slice p n c) ∧
 KeptL [] w1 w'_4 ∧
 ∃ (x_10 : Int),
 w'_4.cell?
 (Addr.mk n_4 (0 + 1)
 none) =
 some
 (Value.int
 IntKind.i64 x_10) ∧
 ∀ (n_7 : Nat)
 (W : World),
 Loc w.heap.size
 [Blk.mk n_7 3
 [Value.int
 IntKind.i64
 x_10]
 2]
 w'_4 W →
 ∃ (base : Nat),
 ∃ (xs :
 List Value),
 W.ownsRow base 3 1
 (Value.slice p_1
 n_1 c_1)
 n_1 xs ∧
 n_1 + 1 ≤
 9223372036854775807 ∧
 (n_1 + 1) * 8 ≤
 140737488355328 ∧
 base ≤
 W.heap.size ∧
 ∀
 (p' :
 Option Addr)
 (c' : Nat)
 (w'_5 :
 World),
 w'_5.ownsRow
 base 3 1
 (Value.slice
 p'
 (n_1 + 1)
 c')
 (n_1 + 1)
 (xs ++
 [Value.int
 IntKind.i64
 x_10]) →
 W.grownBy
 w'_5
 (Value.slice
 p_1 n_1
 c_1).ownBlock →
 AppL W p_1
 n_1 c_1 1
 p' c' →
 KeptL [] W
 w'_5 ∧
 I
 [Value.int
 IntKind.i64
 (IntKind.i64.wrap
 (x +
 1)),
 Value.slice
 p'
 (n_1 +
 1)
 c',
 Value.slice
 p n
 c]
 w'_5 ∧
 m_2
 [Value.int
 IntKind.i64
 (IntKind.i64.wrap
 (x +
 1)),
 Value.slice
 p'
 (n_1 +
 1)
 c',
 Value.slice
 p n
 c]
 w'_5 <
 m_2
 [Value.int
 IntKind.i64
 x,
 Value.slice
 p_1
 n_1
 c_1,
 Value.slice
 p_2
 n_2
 c_2]
 w') ∧
 ∀ (n_6 : Nat) (w1_1 : World),
 NewB w1 (Obj.cells #[Value.int IntKind.i64 x_6] 3) n_6 w1_1 →
 S w1_1 ∧
 ∃ (base : Nat),
 ∃ (xs : List Value),
 ∃ (news : List Value),
 w1_1.ownsRow base 3 1
 (Value.slice (some (Addr.mk n_5 0 none)) 0 0) 0 xs ∧
 news.length = n * 1 ∧
 SrcP w1_1 p news ∧
 0 + n ≤ 9223372036854775807 ∧
 (0 + n) * 8 ≤ 140737488355328 ∧
 base ≤ w1_1.heap.size ∧
 ∀ (p' : Option Addr) (c' : Nat) (w'_2 : World),
 w'_2.ownsRow base 3 1 (Value.slice p' (0 + n) c') (0 + n)
 (xs ++ news) →
 w1_1.grownBy w'_2
 (Value.slice (some (Addr.mk n_5 0 none)) 0
 0).ownBlock →
 AppL w1_1 (some (Addr.mk n_5 0 none)) 0 0 n p' c' →
 S w'_2 ∧
 ∃ (base : Nat),
 ∃ (xs : List Value),
 ∃ (news : List Value),
 w'_2.ownsRow base 3 1 (Value.slice p' (0 + n) c')
 (0 + n) xs ∧
 news.length = 1 ∧
 SrcP w'_2 (some (Addr.mk n_6 0 none)) news ∧
 0 + n + 1 ≤ 9223372036854775807 ∧
 (0 + n + 1) * 8 ≤ 140737488355328 ∧
 base ≤ w'_2.heap.size ∧
 ∀ (p'_1 : Option Addr) (c'_1 : Nat)
 (w'_3 : World),
 w'_3.ownsRow base 3 1
 (Value.slice p'_1 (0 + n + 1) c'_1)
 (0 + n + 1) (xs ++ news) →
 w'_2.grownBy w'_3
 (Value.slice p' (0 + n) c').ownBlock →
 AppL w'_2 p' (0 + n) c' 1 p'_1 c'_1 →
 ((∃ (u : Value),
 w'_3.cell?
 (Addr.mk n_4 (0 + 2) none) =
 some u) ∧
 w'_3.frozen?
 (Addr.mk n_4 (0 + 2) none) =
 false) ∧
 ∀ (w1 : World),
 PutB w'_3 n_4 (0 + 2)
 [Value.slice p'_1 (0 + n + 1) c'_1]
 w1 →
 KeptL [] W w1 ∧
 ∃ (x_7 : ByteArray),
 ∃ (x_8 : Int),
 ∃ (p : Option Addr),
 ∃ (n : Nat),
 ∃ (c : Nat),
 ∃ (x_9 : Bool),
 AtL w1 n_4 0
 [Value.string x_7,
 Value.int IntKind.i64 x_8,
 Value.slice p n c,
 Value.bool x_9] ∧
 CallsS Tryz.prog 62
 #[Value.slice p_2 n_2 c_2,
 Value.int IntKind.i64 x_2,
 Value.agg
 #[Value.string x_7,
 Value.int IntKind.i64 x_8,
 Value.slice p n c,
 Value.bool x_9]]
 w1
 fun (e : Ending)
 (w'_4 : World) =>
 ∃ (p : Option Addr),
 ∃ (n : Nat),
 ∃ (c : Nat),
 e =
 Ending.returned
 (Value.slice p n c) ∧
 KeptL [] w1 w'_4 ∧
 ∃ (x_10 : Int),
 w'_4.cell?
 (Addr.mk n_4 (0 + 1)
 none) =
 some
 (Value.int
 IntKind.i64 x_10) ∧
 ∀ (n_7 : Nat)
 (W : World),
 Loc w.heap.size
 [Blk.mk n_7 3
 [Value.int
 IntKind.i64
 x_10]
 2]
 w'_4 W →
 ∃ (base : Nat),
 ∃ (xs :
 List Value),
 W.ownsRow base 3 1
 (Value.slice p_1
 n_1 c_1)
 n_1 xs ∧
 n_1 + 1 ≤
 9223372036854775807 ∧
 (n_1 + 1) * 8 ≤
 140737488355328 ∧
 base ≤
 W.heap.size ∧
 ∀
 (p' :
 Option Addr)
 (c' : Nat)
 (w'_5 :
 World),
 w'_5.ownsRow
 base 3 1
 (Value.slice
 p'
 (n_1 + 1)
 c')
 (n_1 + 1)
 (xs ++
 [Value.int
 IntKind.i64
 x_10]) →
 W.grownBy
 w'_5
 (Value.slice
 p_1 n_1
 c_1).ownBlock →
 AppL W p_1
 n_1 c_1 1
 p' c' →
 KeptL [] W
 w'_5 ∧
 I
 [Value.int
 IntKind.i64
 (IntKind.i64.wrap
 (x +
 1)),
 Value.slice
 p'
 (n_1 +
 1)
 c',
 Value.slice
 p n
 c]
 w'_5 ∧
 m_2
 [Value.int
 IntKind.i64
 (IntKind.i64.wrap
 (x +
 1)),
 Value.slice
 p'
 (n_1 +
 1)
 c',
 Value.slice
 p n
 c]
 w'_5 <
 m_2
 [Value.int
 IntKind.i64
 x,
 Value.slice
 p_1
 n_1
 c_1,
 Value.slice
 p_2
 n_2
 c_2]
 w') ∧
 ∀ (n_5 : Nat) (w1 : World),
 NewB W (Obj.cells #[Value.int IntKind.i64 x_6] 3) n_5 w1 →
 S w1 ∧
 ∀ (n_6 : Nat) (w1_1 : World),
 NewB w1 (Obj.cells #[] 3) n_6 w1_1 →
 S w1_1 ∧
 ∃ (base : Nat),
 ∃ (xs : List Value),
 ∃ (news : List Value),
 w1_1.ownsRow base 3 1
 (Value.slice (some (Addr.mk n_6 0 none)) 0 0) 0 xs ∧
 news.length = n * 1 ∧
 SrcP w1_1 p news ∧
 0 + n ≤ 9223372036854775807 ∧
 (0 + n) * 8 ≤ 140737488355328 ∧
 base ≤ w1_1.heap.size ∧
 ∀ (p' : Option Addr) (c' : Nat) (w'_2 : World),
 w'_2.ownsRow base 3 1 (Value.slice p' (0 + n) c') (0 + n)
 (xs ++ news) →
 w1_1.grownBy w'_2
 (Value.slice (some (Addr.mk n_6 0 none)) 0 0).ownBlock →
 AppL w1_1 (some (Addr.mk n_6 0 none)) 0 0 n p' c' →
 S w'_2 ∧
 ∃ (base : Nat),
 ∃ (xs : List Value),
 ∃ (news : List Value),
 w'_2.ownsRow base 3 1 (Value.slice p' (0 + n) c')
 (0 + n) xs ∧
 news.length = 1 ∧
 SrcP w'_2 (some (Addr.mk n_5 0 none)) news ∧
 0 + n + 1 ≤ 9223372036854775807 ∧
 (0 + n + 1) * 8 ≤ 140737488355328 ∧
 base ≤ w'_2.heap.size ∧
 ∀ (p'_1 : Option Addr) (c'_1 : Nat)
 (w'_3 : World),
 w'_3.ownsRow base 3 1
 (Value.slice p'_1 (0 + n + 1) c'_1)
 (0 + n + 1) (xs ++ news) →
 w'_2.grownBy w'_3
 (Value.slice p' (0 + n) c').ownBlock →
 AppL w'_2 p' (0 + n) c' 1 p'_1 c'_1 →
 ((∃ (u : Value),
 w'_3.cell? (Addr.mk n_4 (0 + 2) none) =
 some u) ∧
 w'_3.frozen?
 (Addr.mk n_4 (0 + 2) none) =
 false) ∧
 ∀ (w1 : World),
 PutB w'_3 n_4 (0 + 2)
 [Value.slice p'_1 (0 + n + 1) c'_1]
 w1 →
 KeptL [] W w1 ∧
 ∃ (x_7 : ByteArray),
 ∃ (x_8 : Int),
 ∃ (p : Option Addr),
 ∃ (n : Nat),
 ∃ (c : Nat),
 ∃ (x_9 : Bool),
 AtL w1 n_4 0
 [Value.string x_7,
 Value.int IntKind.i64 x_8,
 Value.slice p n c,
 Value.bool x_9] ∧
 CallsS Tryz.prog 62
 #[Value.slice p_2 n_2 c_2,
 Value.int IntKind.i64 x_2,
 Value.agg
 #[Value.string x_7,
 Value.int IntKind.i64 x_8,
 Value.slice p n c,
 Value.bool x_9]]
 w1
 fun (e : Ending)
 (w'_4 : World) =>
 ∃ (p : Option Addr),
 ∃ (n : Nat),
 ∃ (c : Nat),
 e =
 Ending.returned
 (Value.slice p n c) ∧
 KeptL [] w1 w'_4 ∧
 ∃ (x_10 : Int),
 w'_4.cell?
 (Addr.mk n_4 (0 + 1)
 none) =
 some
 (Value.int
 IntKind.i64 x_10) ∧
 ∀ (n_7 : Nat)
 (W : World),
 Loc w.heap.size
 [Blk.mk n_7 3
 [Value.int
 IntKind.i64
 x_10]
 2]
 w'_4 W →
 ∃ (base : Nat),
 ∃ (xs : List Value),
 W.ownsRow base 3 1
 (Value.slice p_1
 n_1 c_1)
 n_1 xs ∧
 n_1 + 1 ≤
 9223372036854775807 ∧
 (n_1 + 1) * 8 ≤
 140737488355328 ∧
 base ≤
 W.heap.size ∧
 ∀
 (p' :
 Option Addr)
 (c' : Nat)
 (w'_5 :
 World),
 w'_5.ownsRow
 base 3 1
 (Value.slice
 p'
 (n_1 + 1)
 c')
 (n_1 + 1)
 (xs ++
 [Value.int
 IntKind.i64
 x_10]) →
 W.grownBy
 w'_5
 (Value.slice
 p_1 n_1
 c_1).ownBlock →
 AppL W p_1
 n_1 c_1 1
 p' c' →
 KeptL [] W
 w'_5 ∧
 I
 [Value.int
 IntKind.i64
 (IntKind.i64.wrap
 (x +
 1)),
 Value.slice
 p'
 (n_1 +
 1)
 c',
 Value.slice
 p n c]
 w'_5 ∧
 m_2
 [Value.int
 IntKind.i64
 (IntKind.i64.wrap
 (x +
 1)),
 Value.slice
 p'
 (n_1 +
 1)
 c',
 Value.slice
 p n
 c]
 w'_5 <
 m_2
 [Value.int
 IntKind.i64
 x,
 Value.slice
 p_1
 n_1
 c_1,
 Value.slice
 p_2
 n_2
 c_2]
 w'))))
 (R
 (Ending.returned
 (Value.tuple #[Value.slice p_2 n_2 c_2, Value.slice p_1 n_1 c_1, Value.int IntKind.i64 0]))
 w')))
theorem vc_acxassign (p : Option Addr) (n : Nat) (c : Nat) (q : Option Addr) (m : Nat) (d : Nat) (w : World) (R : Ending → World → Prop) (h : VC_acxassign p n c q m d w R) : Calls Tryz.prog 29 ([Value.slice
    p n c,
  Value.slice q m d] : List Value).toArray w R := by
  have e : execR2 { P := Tryz.prog, loops := [(4, [(7, Ck.int IntKind.i64)]), (7, [(8, Ck.int IntKind.i64)]), (14, [(11, Ck.int IntKind.i64), (9, Ck.slice), (10, Ck.slice)])], pur := pur1, tails := [(25, 0)], joins := [], boxes := [] } Tryz.f29.results.toList R (Tryz.f29.body.getD .skip) (initF [Value.slice
    p n c,
  Value.slice q m
    d] (Tryz.f29.ntmps - ([Value.slice p n c,
  Value.slice q m d] : List Value).length)) w = VC_acxassign p n c q m d w R := by kernel_rfl
  have hb : Tryz.f29.body = some (Tryz.f29.body.getD .skip) := by kernel_rfl
  exact calls_of_exec2' (P := Tryz.prog) (fn := Tryz.f29) (c := Tryz.f29.body.getD .skip) (args := [Value.slice p n c,
  Value.slice q m d]) (w := w) (R := R) pur1_ok Tryz.func29 hb e h

def VC_acxhas (p : Option Addr) (n : Nat) (c : Nat) (s : ByteArray) (v : Int) (w : World) (R : Ending → World → Prop) : Prop :=
 CallsS Tryz.prog 37 #[Value.slice p n c, Value.string s] w fun (e : Ending) (w' : World) =>
 ∃ (x : Int),
 e = Ending.returned (Value.int IntKind.i64 x) ∧
 KeptL [] w w' ∧
 bsp (decide (x < 0)) (R (Ending.returned (Value.bool false)) w')
 (nn true p fun (b o : Nat) =>
 (0 ≤ x ∧ x < (↑n : Int)) ∧
 ∃ (x_1 : ByteArray),
 ∃ (x_2 : Int),
 ∃ (p : Option Addr),
 ∃ (n : Nat),
 ∃ (c : Nat),
 ∃ (x_3 : Bool),
 AtL w' b (o + x.toNat * 4)
 [Value.string x_1, Value.int IntKind.i64 x_2, Value.slice p n c, Value.bool x_3] ∧
 CallsS Tryz.prog 40
 #[Value.agg #[Value.string x_1, Value.int IntKind.i64 x_2, Value.slice p n c, Value.bool x_3],
 Value.int IntKind.i64 v, Value.int IntKind.i64 v]
 w' fun (e : Ending) (w'_1 : World) =>
 ∃ (p : Option Addr),
 ∃ (n : Nat),
 ∃ (c : Nat),
 e = Ending.returned (Value.slice p n c) ∧
 KeptL [] w' w'_1 ∧ R (Ending.returned (Value.bool ((↑n : Int) == 1))) w'_1)
theorem vc_acxhas (p : Option Addr) (n : Nat) (c : Nat) (s : ByteArray) (v : Int) (w : World) (R : Ending → World → Prop) (h : VC_acxhas p n c s v w R) : Calls Tryz.prog 41 ([Value.slice
    p n c,
  Value.string s, Value.int IntKind.i64 v] : List Value).toArray w R := by
  have e : execR2 { P := Tryz.prog, loops := [], pur := pur1, tails := [], joins := [], boxes := [] } Tryz.f41.results.toList R (Tryz.f41.body.getD .skip) (initF [Value.slice
    p n c,
  Value.string s,
  Value.int IntKind.i64
    v] (Tryz.f41.ntmps - ([Value.slice p n c, Value.string s,
  Value.int IntKind.i64 v] : List Value).length)) w = VC_acxhas p n c s v w R := by kernel_rfl
  have hb : Tryz.f41.body = some (Tryz.f41.body.getD .skip) := by kernel_rfl
  exact calls_of_exec2' (P := Tryz.prog) (fn := Tryz.f41) (c := Tryz.f41.body.getD .skip) (args := [Value.slice p n c,
  Value.string s, Value.int IntKind.i64 v]) (w := w) (R := R) pur1_ok Tryz.func41 hb e h

def VC_acxnums (s : ByteArray) (zh : Int) (p : Option Addr) (n : Nat) (c : Nat) (cl : Bool) (u : Int) (v : Int) (w : World) (R : Ending → World → Prop) : Prop :=
 ∀ (n_1 : Nat) (W : World),
 Loc w.heap.size [Blk.mk n_1 84 [Value.string s, Value.int IntKind.i64 zh, Value.slice p n c, Value.bool cl] 2] w W →
 ∃ (I : List Value → World → Prop),
 ∃ (m : List Value → World → Nat),
 I [Value.int IntKind.i64 0, Value.slice none 0 0] W ∧
 ∀ (x : Int) (p_1 : Option Addr) (n_2 c_1 : Nat) (w' : World),
 I [Value.int IntKind.i64 x, Value.slice p_1 n_2 c_1] w' →
 Loc w.heap.size [Blk.mk n_1 84 [Value.string s, Value.int IntKind.i64 zh, Value.slice p n c, Value.bool cl] 0] w'
 w' →
 bsp (decide (x < (↑n : Int)))
 (nn true p fun (b o : Nat) =>
 (0 ≤ x ∧ x < (↑n : Int)) ∧
 ∃ (x_1 : Int),
 w'.cell? (Addr.mk b (o + x.toNat) none) = some (Value.int IntKind.i64 x_1) ∧
 ∃ (p_2 : Option Addr),
 ∃ (n_3 : Nat),
 ∃ (c_2 : Nat),
 gimp (decide (x_1 ≥ u)) (w'.cell? (Addr.mk n_1 (0 + 2) none) = some (Value.slice p_2 n_3 c_2)) ∧
 nn (decide (x_1 ≥ u)) p_2 fun (b o : Nat) =>
 gimp (decide (x_1 ≥ u)) (0 ≤ x ∧ x < (↑n_3 : Int)) ∧
 ∃ (x_2 : Int),
 gimp (decide (x_1 ≥ u))
 (w'.cell? (Addr.mk b (o + x.toNat) none) = some (Value.int IntKind.i64 x_2)) ∧
 bsp (decide (x_1 ≥ u) && decide (x_2 ≤ v))
 (nn true p fun (b o : Nat) =>
 (0 ≤ x ∧ x < (↑n : Int)) ∧
 ∃ (x_3 : Int),
 w'.cell? (Addr.mk b (o + x.toNat) none) = some (Value.int IntKind.i64 x_3) ∧
 ∀ (n_4 : Nat) (W : World),
 Loc w.heap.size
 [Blk.mk n_1 84 [Value.string s, Value.int IntKind.i64 zh, Value.slice p n c, Value.bool cl]
 0,
 Blk.mk n_4 3 [Value.int IntKind.i64 x_3] 2]
 w' W →
 ∃ (base : Nat),
 ∃ (xs : List Value),
 W.ownsRow base 3 1 (Value.slice p_1 n_2 c_1) n_2 xs ∧
 n_2 + 1 ≤ 9223372036854775807 ∧
 (n_2 + 1) * 8 ≤ 140737488355328 ∧
 base ≤ W.heap.size ∧
 ∀ (p' : Option Addr) (c' : Nat) (w'_1 : World),
 w'_1.ownsRow base 3 1 (Value.slice p' (n_2 + 1) c') (n_2 + 1)
 (xs ++ [Value.int IntKind.i64 x_3]) →
 W.grownBy w'_1 (Value.slice p_1 n_2 c_1).ownBlock →
 AppL W p_1 n_2 c_1 1 p' c' →
 KeptL [n_1] W w'_1 ∧
 I [Value.int IntKind.i64 (IntKind.i64.wrap (x + 1)), Value.slice p' (n_2 + 1) c']
 w'_1 ∧
 m
 [Value.int IntKind.i64 (IntKind.i64.wrap (x + 1)),
 Value.slice p' (n_2 + 1) c']
 w'_1 <
 m [Value.int IntKind.i64 x, Value.slice p_1 n_2 c_1] w')
 (I [Value.int IntKind.i64 (IntKind.i64.wrap (x + 1)), Value.slice p_1 n_2 c_1] w' ∧
 m [Value.int IntKind.i64 (IntKind.i64.wrap (x + 1)), Value.slice p_1 n_2 c_1] w' <
 m [Value.int IntKind.i64 x, Value.slice p_1 n_2 c_1] w'))
 (R (Ending.returned (Value.slice p_1 n_2 c_1)) w')
theorem vc_acxnums (s : ByteArray) (zh : Int) (p : Option Addr) (n : Nat) (c : Nat) (cl : Bool) (u : Int) (v : Int) (w : World) (R : Ending → World → Prop) (h : VC_acxnums s zh p n c cl u v w R) : Calls Tryz.prog 40 ([Value.agg
    #[Value.string s, Value.int IntKind.i64 zh, Value.slice p n c, Value.bool cl],
  Value.int IntKind.i64 u, Value.int IntKind.i64 v] : List Value).toArray w R := by
  have e : execR2 { P := Tryz.prog, loops := [(3, [(8, Ck.int IntKind.i64), (7, Ck.slice)])], pur := pur1, tails := [], joins := [], boxes := [] } Tryz.f40.results.toList R (Tryz.f40.body.getD .skip) (initF [Value.agg
    #[Value.string s, Value.int IntKind.i64 zh, Value.slice p n c, Value.bool cl],
  Value.int IntKind.i64 u,
  Value.int IntKind.i64
    v] (Tryz.f40.ntmps - ([Value.agg #[Value.string s, Value.int IntKind.i64 zh, Value.slice p n c, Value.bool cl],
  Value.int IntKind.i64 u,
  Value.int IntKind.i64 v] : List Value).length)) w = VC_acxnums s zh p n c cl u v w R := by kernel_rfl
  have hb : Tryz.f40.body = some (Tryz.f40.body.getD .skip) := by kernel_rfl
  exact calls_of_exec2' (P := Tryz.prog) (fn := Tryz.f40) (c := Tryz.f40.body.getD .skip) (args := [Value.agg
    #[Value.string s, Value.int IntKind.i64 zh, Value.slice p n c, Value.bool cl],
  Value.int IntKind.i64 u, Value.int IntKind.i64 v]) (w := w) (R := R) pur1_ok Tryz.func40 hb e h

def VC_acxremove (p : Option Addr) (n : Nat) (c : Nat) (s : ByteArray) (v : Int) (w : World) (R : Ending → World → Prop) : Prop :=
 CallsS Tryz.prog 41 #[Value.slice p n c, Value.string s, Value.int IntKind.i64 v] w fun (e : Ending) (w' : World) =>
 ∃ (x : Bool),
 e = Ending.returned (Value.bool x) ∧
 KeptL [] w w' ∧
 bsp (!x) (R (Ending.returned (Value.tuple #[Value.slice p n c, Value.int IntKind.i64 8])) w')
 (CallsS Tryz.prog 37 #[Value.slice p n c, Value.string s] w' fun (e : Ending) (w'_1 : World) =>
 ∃ (x : Int),
 e = Ending.returned (Value.int IntKind.i64 x) ∧
 KeptL [] w' w'_1 ∧
 nn true p fun (b o : Nat) =>
 (0 ≤ x ∧ x < (↑n : Int)) ∧
 ∃ (x_1 : ByteArray),
 ∃ (x_2 : Int),
 ∃ (p_1 : Option Addr),
 ∃ (n_1 : Nat),
 ∃ (c_1 : Nat),
 ∃ (x_3 : Bool),
 AtL w'_1 b (o + x.toNat * 4)
 [Value.string x_1, Value.int IntKind.i64 x_2, Value.slice p_1 n_1 c_1, Value.bool x_3] ∧
 ∀ (n_2 : Nat) (W : World),
 Loc w.heap.size
 [Blk.mk n_2 84
 [Value.string x_1, Value.int IntKind.i64 x_2, Value.slice p_1 n_1 c_1, Value.bool x_3] (wrM 2)]
 w'_1 W →
 ∃ (S : World → Prop),
 S W ∧
 nn true p fun (b o : Nat) =>
 (0 ≤ x ∧ x < (↑n : Int)) ∧
 ∃ (x_4 : ByteArray),
 ∃ (x_5 : Int),
 ∃ (p_2 : Option Addr),
 ∃ (n_3 : Nat),
 ∃ (c_2 : Nat),
 ∃ (x_6 : Bool),
 (∀ (w' : World),
 S w' →
 AtL w' b (o + x.toNat * 4)
 [Value.string x_4, Value.int IntKind.i64 x_5, Value.slice p_2 n_3 c_2,
 Value.bool x_6]) ∧
 nn true p fun (b o : Nat) =>
 (0 ≤ x ∧ x < (↑n : Int)) ∧
 ∃ (x_7 : ByteArray),
 ∃ (x_8 : Int),
 ∃ (p_3 : Option Addr),
 ∃ (n_4 : Nat),
 ∃ (c_3 : Nat),
 ∃ (x_9 : Bool),
 (∀ (w' : World),
 S w' →
 AtL w' b (o + x.toNat * 4)
 [Value.string x_7, Value.int IntKind.i64 x_8, Value.slice p_3 n_4 c_3,
 Value.bool x_9]) ∧
 CallsS Tryz.prog 40
 #[Value.agg
 #[Value.string x_4, Value.int IntKind.i64 x_5, Value.slice p_2 n_3 c_2,
 Value.bool x_6],
 Value.int IntKind.i64 0, Value.int IntKind.i64 (IntKind.i64.wrap (v - 1))]
 W fun (e : Ending) (w' : World) =>
 ∃ (p_4 : Option Addr),
 ∃ (n_5 : Nat),
 ∃ (c_4 : Nat),
 e = Ending.returned (Value.slice p_4 n_5 c_4) ∧
 S w' ∧
 CallsS Tryz.prog 40
 #[Value.agg
 #[Value.string x_7, Value.int IntKind.i64 x_8, Value.slice p_3 n_4 c_3,
 Value.bool x_9],
 Value.int IntKind.i64 (IntKind.i64.wrap (v + 1)),
 Value.int IntKind.i64 2147483646]
 w' fun (e : Ending) (w' : World) =>
 ∃ (p_5 : Option Addr),
 ∃ (n_6 : Nat),
 ∃ (c_5 : Nat),
 e = Ending.returned (Value.slice p_5 n_6 c_5) ∧
 ∃ (base : Nat),
 ∃ (xs : List Value),
 ∃ (news : List Value),
 w'.ownsRow base 3 1 (Value.slice p_4 n_5 c_4) n_5 xs ∧
 news.length = n_6 * 1 ∧
 SrcP w' p_5 news ∧
 n_5 + n_6 ≤ 9223372036854775807 ∧
 (n_5 + n_6) * 8 ≤ 140737488355328 ∧
 base ≤ w'.heap.size ∧
 ∀ (p' : Option Addr) (c' : Nat) (w'_2 : World),
 w'_2.ownsRow base 3 1 (Value.slice p' (n_5 + n_6) c')
 (n_5 + n_6) (xs ++ news) →
 w'.grownBy w'_2 (Value.slice p_4 n_5 c_4).ownBlock →
 AppL w' p_4 n_5 c_4 n_6 p' c' →
 ((∃ (u : Value),
 w'_2.cell? (Addr.mk n_2 (0 + 2) none) = some u) ∧
 w'_2.frozen? (Addr.mk n_2 (0 + 2) none) = false) ∧
 ∀ (w1 : World),
 PutB w'_2 n_2 (0 + 2) [Value.slice p' (n_5 + n_6) c']
 w1 →
 KeptL [] W w1 ∧
 ∃ (x_10 : ByteArray),
 ∃ (x_11 : Int),
 ∃ (p_6 : Option Addr),
 ∃ (n_7 : Nat),
 ∃ (c_6 : Nat),
 ∃ (x_12 : Bool),
 AtL w1 n_2 0
 [Value.string x_10,
 Value.int IntKind.i64 x_11,
 Value.slice p_6 n_7 c_6, Value.bool x_12] ∧
 CallsS Tryz.prog 62
 #[Value.slice p n c,
 Value.int IntKind.i64 x,
 Value.agg
 #[Value.string x_10,
 Value.int IntKind.i64 x_11,
 Value.slice p_6 n_7 c_6,
 Value.bool x_12]]
 w1 fun (e : Ending) (w' : World) =>
 ∃ (p : Option Addr),
 ∃ (n : Nat),
 ∃ (c : Nat),
 e = Ending.returned (Value.slice p n c) ∧
 KeptL [] w1 w' ∧
 R
 (Ending.returned
 (Value.tuple
 #[Value.slice p n c,
 Value.int IntKind.i64 0]))
 w')
theorem vc_acxremove (p : Option Addr) (n : Nat) (c : Nat) (s : ByteArray) (v : Int) (w : World) (R : Ending → World → Prop) (h : VC_acxremove p n c s v w R) : Calls Tryz.prog 55 ([Value.slice
    p n c,
  Value.string s, Value.int IntKind.i64 v] : List Value).toArray w R := by
  have e : execR2 { P := Tryz.prog, loops := [], pur := pur1, tails := [(5, 6)], joins := [], boxes := [] } Tryz.f55.results.toList R (Tryz.f55.body.getD .skip) (initF [Value.slice
    p n c,
  Value.string s,
  Value.int IntKind.i64
    v] (Tryz.f55.ntmps - ([Value.slice p n c, Value.string s,
  Value.int IntKind.i64 v] : List Value).length)) w = VC_acxremove p n c s v w R := by kernel_rfl
  have hb : Tryz.f55.body = some (Tryz.f55.body.getD .skip) := by kernel_rfl
  exact calls_of_exec2' (P := Tryz.prog) (fn := Tryz.f55) (c := Tryz.f55.body.getD .skip) (args := [Value.slice p n c,
  Value.string s, Value.int IntKind.i64 v]) (w := w) (R := R) pur1_ok Tryz.func55 hb e h

def VC_acxnbr (s : ByteArray) (zh : Int) (p : Option Addr) (n : Nat) (c : Nat) (cl : Bool) (v : Int) (fw : Bool) (w : World) (R : Ending → World → Prop) : Prop :=
 ∀ (n_1 : Nat) (W : World),
 Loc w.heap.size [Blk.mk n_1 84 [Value.string s, Value.int IntKind.i64 zh, Value.slice p n c, Value.bool cl] 2] w W →
 ∃ (I : List Value → World → Prop),
 ∃ (m : List Value → World → Nat),
 I [Value.int IntKind.i64 0, Value.int IntKind.i64 0] W ∧
 ∀ (x x_1 : Int) (w' : World),
 I [Value.int IntKind.i64 x, Value.int IntKind.i64 x_1] w' →
 Loc w.heap.size [Blk.mk n_1 84 [Value.string s, Value.int IntKind.i64 zh, Value.slice p n c, Value.bool cl] 0] w'
 w' →
 bsp (decide (x < (↑n : Int)))
 (nn true p fun (b o : Nat) =>
 (0 ≤ x ∧ x < (↑n : Int)) ∧
 ∃ (x_2 : Int),
 w'.cell? (Addr.mk b (o + x.toNat) none) = some (Value.int IntKind.i64 x_2) ∧
 bsp (fw && decide (x_2 > v) && x_1 == 0 || !fw && decide (x_2 < v))
 (I [Value.int IntKind.i64 (IntKind.i64.wrap (x + 1)), Value.int IntKind.i64 x_2] w' ∧
 m [Value.int IntKind.i64 (IntKind.i64.wrap (x + 1)), Value.int IntKind.i64 x_2] w' <
 m [Value.int IntKind.i64 x, Value.int IntKind.i64 x_1] w')
 (I [Value.int IntKind.i64 (IntKind.i64.wrap (x + 1)), Value.int IntKind.i64 x_1] w' ∧
 m [Value.int IntKind.i64 (IntKind.i64.wrap (x + 1)), Value.int IntKind.i64 x_1] w' <
 m [Value.int IntKind.i64 x, Value.int IntKind.i64 x_1] w'))
 (R (Ending.returned (Value.int IntKind.i64 x_1)) w')
theorem vc_acxnbr (s : ByteArray) (zh : Int) (p : Option Addr) (n : Nat) (c : Nat) (cl : Bool) (v : Int) (fw : Bool) (w : World) (R : Ending → World → Prop) (h : VC_acxnbr s zh p n c cl v fw w R) : Calls Tryz.prog 38 ([Value.agg
    #[Value.string s, Value.int IntKind.i64 zh, Value.slice p n c, Value.bool cl],
  Value.int IntKind.i64 v, Value.bool fw] : List Value).toArray w R := by
  have e : execR2 { P := Tryz.prog, loops := [(3, [(8, Ck.int IntKind.i64), (7, Ck.int IntKind.i64)])], pur := pur1, tails := [], joins := [], boxes := [] } Tryz.f38.results.toList R (Tryz.f38.body.getD .skip) (initF [Value.agg
    #[Value.string s, Value.int IntKind.i64 zh, Value.slice p n c, Value.bool cl],
  Value.int IntKind.i64 v,
  Value.bool
    fw] (Tryz.f38.ntmps - ([Value.agg #[Value.string s, Value.int IntKind.i64 zh, Value.slice p n c, Value.bool cl],
  Value.int IntKind.i64 v, Value.bool fw] : List Value).length)) w = VC_acxnbr s zh p n c cl v fw w R := by kernel_rfl
  have hb : Tryz.f38.body = some (Tryz.f38.body.getD .skip) := by kernel_rfl
  exact calls_of_exec2' (P := Tryz.prog) (fn := Tryz.f38) (c := Tryz.f38.body.getD .skip) (args := [Value.agg
    #[Value.string s, Value.int IntKind.i64 zh, Value.slice p n c, Value.bool cl],
  Value.int IntKind.i64 v, Value.bool fw]) (w := w) (R := R) pur1_ok Tryz.func38 hb e h

def VC_acxranges (p : Option Addr) (n : Nat) (c : Nat) (w : World) (R : Ending → World → Prop) : Prop :=
 ∃ (I : List Value → World → Prop),
 ∃ (m : List Value → World → Nat),
 I [Value.int IntKind.i64 0, Value.string (ByteArray.mk #[])] w ∧
 ∀ (x : Int) (x_1 : ByteArray) (w' : World),
 I [Value.int IntKind.i64 x, Value.string x_1] w' →
 bsp (decide (x < (↑n : Int)))
 (nn (decide (x > 0)) p fun (b o : Nat) =>
 gimp (decide (x > 0)) (0 ≤ IntKind.i64.wrap (x - 1) ∧ IntKind.i64.wrap (x - 1) < (↑n : Int)) ∧
 ∃ (x_2 : Int),
 gimp (decide (x > 0))
 (∀ (W : World),
 Loc w.heap.size [] w' W →
 W.cell? (Addr.mk b (o + (IntKind.i64.wrap (x - 1)).toNat) none) = some (Value.int IntKind.i64 x_2)) ∧
 nn (decide (x > 0)) p fun (b o : Nat) =>
 gimp (decide (x > 0)) (0 ≤ x ∧ x < (↑n : Int)) ∧
 ∃ (x_3 : Int),
 gimp (decide (x > 0))
 (∀ (W : World),
 Loc w.heap.size [] w' W → W.cell? (Addr.mk b (o + x.toNat) none) = some (Value.int IntKind.i64 x_3)) ∧
 bsp (decide (x > 0) && x_2 == IntKind.i64.wrap (x_3 - 1))
 (∀ (W : World),
 Loc w.heap.size [] w' W →
 I [Value.int IntKind.i64 (IntKind.i64.wrap (x + 1)), Value.string x_1] W ∧
 m [Value.int IntKind.i64 (IntKind.i64.wrap (x + 1)), Value.string x_1] W <
 m [Value.int IntKind.i64 x, Value.string x_1] w')
 (bsp (decide (x > 0))
 ((9223372036854775807 - (↑(x_1.size + (ByteArray.mk #[44]).size) : Int)).NonNeg ∧
 ∀ (W : World),
 Loc w.heap.size [] w' W →
 ∃ (I_1 : List Value → World → Prop),
 ∃ (m_1 : List Value → World → Nat),
 I_1 [Value.int IntKind.i64 x] W ∧
 ∀ (x_4 : Int) (w'_1 : World),
 I_1 [Value.int IntKind.i64 x_4] w'_1 →
 nn (decide (IntKind.i64.wrap (x_4 + 1) < (↑n : Int))) p fun (b o : Nat) =>
 gimp (decide (IntKind.i64.wrap (x_4 + 1) < (↑n : Int)))
 (0 ≤ IntKind.i64.wrap (x_4 + 1) ∧ IntKind.i64.wrap (x_4 + 1) < (↑n : Int)) ∧
 ∃ (x_5 : Int),
 gimp (decide (IntKind.i64.wrap (x_4 + 1) < (↑n : Int)))
 (∀ (W : World),
 Loc w.heap.size [] w'_1 W →
 W.cell? (Addr.mk b (o + (IntKind.i64.wrap (x_4 + 1)).toNat) none) =
 some (Value.int IntKind.i64 x_5)) ∧
 nn (decide (IntKind.i64.wrap (x_4 + 1) < (↑n : Int))) p fun (b o : Nat) =>
 gimp (decide (IntKind.i64.wrap (x_4 + 1) < (↑n : Int))) (0 ≤ x_4 ∧ x_4 < (↑n : Int)) ∧
 ∃ (x_6 : Int),
 gimp (decide (IntKind.i64.wrap (x_4 + 1) < (↑n : Int)))
 (∀ (W : World),
 Loc w.heap.size [] w'_1 W →
 W.cell? (Addr.mk b (o + x_4.toNat) none) = some (Value.int IntKind.i64 x_6)) ∧
 bsp
 (decide (IntKind.i64.wrap (x_4 + 1) < (↑n : Int)) && x_5 == IntKind.i64.wrap (x_6 + 1))
 (∀ (W : World),
 Loc w.heap.size [] w'_1 W →
 I_1 [Value.int IntKind.i64 (IntKind.i64.wrap (x_4 + 1))] W ∧
 m_1 [Value.int IntKind.i64 (IntKind.i64.wrap (x_4 + 1))] W <
 m_1 [Value.int IntKind.i64 x_4] w'_1)
 (nn true p fun (b o : Nat) =>
 (0 ≤ x ∧ x < (↑n : Int)) ∧
 ∃ (x_7 : Int),
 (∀ (W : World),
 Loc w.heap.size [] w'_1 W →
 W.cell? (Addr.mk b (o + x.toNat) none) = some (Value.int IntKind.i64 x_7)) ∧
 ∀ (W : World),
 Loc w.heap.size [] w'_1 W →
 CallsS Tryz.prog 57 #[Value.int IntKind.i64 x_7] W
 fun (e : Ending) (w'_2 : World) =>
 ∃ (x_8 : ByteArray),
 e = Ending.returned (Value.string x_8) ∧
 KeptL [] W w'_2 ∧
 (9223372036854775807 -
 (↑((x_1 ++ ByteArray.mk #[44]).size + x_8.size) : Int)).NonNeg ∧
 bsp (decide (x_4 > x))
 (nn true p fun (b o : Nat) =>
 (0 ≤ x_4 ∧ x_4 < (↑n : Int)) ∧
 ∃ (x_9 : Int),
 w'_2.cell? (Addr.mk b (o + x_4.toNat) none) =
 some (Value.int IntKind.i64 x_9) ∧
 CallsS Tryz.prog 57 #[Value.int IntKind.i64 x_9] w'_2
 fun (e : Ending) (w'_3 : World) =>
 ∃ (x_10 : ByteArray),
 e = Ending.returned (Value.string x_10) ∧
 KeptL [] w'_2 w'_3 ∧
 (9223372036854775807 -
 (↑((ByteArray.mk #[45]).size + x_10.size) : Int)).NonNeg ∧
 (9223372036854775807 -
 (↑((x_1 ++ ByteArray.mk #[44] ++ x_8).size +
 (ByteArray.mk #[45] ++ x_10).size) :
 Int)).NonNeg ∧
 I
 [Value.int IntKind.i64 (IntKind.i64.wrap (x + 1)),
 Value.string
 (x_1 ++ ByteArray.mk #[44] ++ x_8 ++
 (ByteArray.mk #[45] ++ x_10))]
 w'_3 ∧
 m
 [Value.int IntKind.i64 (IntKind.i64.wrap (x + 1)),
 Value.string
 (x_1 ++ ByteArray.mk #[44] ++ x_8 ++
 (ByteArray.mk #[45] ++ x_10))]
 w'_3 <
 m [Value.int IntKind.i64 x, Value.string x_1] w')
 (I
 [Value.int IntKind.i64 (IntKind.i64.wrap (x + 1)),
 Value.string (x_1 ++ ByteArray.mk #[44] ++ x_8)]
 w'_2 ∧
 m
 [Value.int IntKind.i64 (IntKind.i64.wrap (x + 1)),
 Value.string (x_1 ++ ByteArray.mk #[44] ++ x_8)]
 w'_2 <
 m [Value.int IntKind.i64 x, Value.string x_1] w')))
 (∀ (W : World),
 Loc w.heap.size [] w' W →
 ∃ (I_1 : List Value → World → Prop),
 ∃ (m_1 : List Value → World → Nat),
 I_1 [Value.int IntKind.i64 x] W ∧
 ∀ (x_4 : Int) (w'_1 : World),
 I_1 [Value.int IntKind.i64 x_4] w'_1 →
 nn (decide (IntKind.i64.wrap (x_4 + 1) < (↑n : Int))) p fun (b o : Nat) =>
 gimp (decide (IntKind.i64.wrap (x_4 + 1) < (↑n : Int)))
 (0 ≤ IntKind.i64.wrap (x_4 + 1) ∧ IntKind.i64.wrap (x_4 + 1) < (↑n : Int)) ∧
 ∃ (x_5 : Int),
 gimp (decide (IntKind.i64.wrap (x_4 + 1) < (↑n : Int)))
 (∀ (W : World),
 Loc w.heap.size [] w'_1 W →
 W.cell? (Addr.mk b (o + (IntKind.i64.wrap (x_4 + 1)).toNat) none) =
 some (Value.int IntKind.i64 x_5)) ∧
 nn (decide (IntKind.i64.wrap (x_4 + 1) < (↑n : Int))) p fun (b o : Nat) =>
 gimp (decide (IntKind.i64.wrap (x_4 + 1) < (↑n : Int))) (0 ≤ x_4 ∧ x_4 < (↑n : Int)) ∧
 ∃ (x_6 : Int),
 gimp (decide (IntKind.i64.wrap (x_4 + 1) < (↑n : Int)))
 (∀ (W : World),
 Loc w.heap.size [] w'_1 W →
 W.cell? (Addr.mk b (o + x_4.toNat) none) = some (Value.int IntKind.i64 x_6)) ∧
 bsp
 (decide (IntKind.i64.wrap (x_4 + 1) < (↑n : Int)) && x_5 == IntKind.i64.wrap (x_6 + 1))
 (∀ (W : World),
 Loc w.heap.size [] w'_1 W →
 I_1 [Value.int IntKind.i64 (IntKind.i64.wrap (x_4 + 1))] W ∧
 m_1 [Value.int IntKind.i64 (IntKind.i64.wrap (x_4 + 1))] W <
 m_1 [Value.int IntKind.i64 x_4] w'_1)
 (nn true p fun (b o : Nat) =>
 (0 ≤ x ∧ x < (↑n : Int)) ∧
 ∃ (x_7 : Int),
 (∀ (W : World),
 Loc w.heap.size [] w'_1 W →
 W.cell? (Addr.mk b (o + x.toNat) none) = some (Value.int IntKind.i64 x_7)) ∧
 ∀ (W : World),
 Loc w.heap.size [] w'_1 W →
 CallsS Tryz.prog 57 #[Value.int IntKind.i64 x_7] W
 fun (e : Ending) (w'_2 : World) =>
 ∃ (x_8 : ByteArray),
 e = Ending.returned (Value.string x_8) ∧
 KeptL [] W w'_2 ∧
 (9223372036854775807 - (↑(x_1.size + x_8.size) : Int)).NonNeg ∧
 bsp (decide (x_4 > x))
 (nn true p fun (b o : Nat) =>
 (0 ≤ x_4 ∧ x_4 < (↑n : Int)) ∧
 ∃ (x_9 : Int),
 w'_2.cell? (Addr.mk b (o + x_4.toNat) none) =
 some (Value.int IntKind.i64 x_9) ∧
 CallsS Tryz.prog 57 #[Value.int IntKind.i64 x_9] w'_2
 fun (e : Ending) (w'_3 : World) =>
 ∃ (x_10 : ByteArray),
 e = Ending.returned (Value.string x_10) ∧
 KeptL [] w'_2 w'_3 ∧
 (9223372036854775807 -
 (↑((ByteArray.mk #[45]).size + x_10.size) : Int)).NonNeg ∧
 (9223372036854775807 -
 (↑((x_1 ++ x_8).size + (ByteArray.mk #[45] ++ x_10).size) :
 Int)).NonNeg ∧
 I
 [Value.int IntKind.i64 (IntKind.i64.wrap (x + 1)),
 Value.string (x_1 ++ x_8 ++ (ByteArray.mk #[45] ++ x_10))]
 w'_3 ∧
 m
 [Value.int IntKind.i64 (IntKind.i64.wrap (x + 1)),
 Value.string (x_1 ++ x_8 ++ (ByteArray.mk #[45] ++ x_10))]
 w'_3 <
 m [Value.int IntKind.i64 x, Value.string x_1] w')
 (I
 [Value.int IntKind.i64 (IntKind.i64.wrap (x + 1)),
 Value.string (x_1 ++ x_8)]
 w'_2 ∧
 m
 [Value.int IntKind.i64 (IntKind.i64.wrap (x + 1)),
 Value.string (x_1 ++ x_8)]
 w'_2 <
 m [Value.int IntKind.i64 x, Value.string x_1] w')))))
 (R (Ending.returned (Value.string x_1)) w')
theorem vc_acxranges (p : Option Addr) (n : Nat) (c : Nat) (w : World) (R : Ending → World → Prop) (h : VC_acxranges p n c w R) : Calls Tryz.prog 58 ([Value.slice
    p n c] : List Value).toArray w R := by
  have e : execR2 { P := Tryz.prog, loops := [(3, [(4, Ck.int IntKind.i64), (3, Ck.str)]), (9, [(5, Ck.int IntKind.i64)])], pur := pur1, tails := [], joins := [], boxes := [] } Tryz.f58.results.toList R (Tryz.f58.body.getD .skip) (initF [Value.slice
    p n c] (Tryz.f58.ntmps - ([Value.slice p n c] : List Value).length)) w = VC_acxranges p n c w R := by kernel_rfl
  have hb : Tryz.f58.body = some (Tryz.f58.body.getD .skip) := by kernel_rfl
  exact calls_of_exec2' (P := Tryz.prog) (fn := Tryz.f58) (c := Tryz.f58.body.getD .skip) (args := [Value.slice p n
    c]) (w := w) (R := R) pur1_ok Tryz.func58 hb e h

def VC_acxprint (p : Option Addr) (n : Nat) (c : Nat) (w : World) (R : Ending → World → Prop) : Prop :=
 ∃ (I : List Value → World → Prop),
 ∃ (m : List Value → World → Nat),
 I [Value.int IntKind.i64 0, Value.string (ByteArray.mk #[])] w ∧
 ∀ (x : Int) (x_1 : ByteArray) (w' : World),
 I [Value.int IntKind.i64 x, Value.string x_1] w' →
 bsp (decide (x < (↑n : Int)))
 (∀ (W : World),
 Loc w.heap.size [] w' W →
 ∃ (S : World → Prop),
 S W ∧
 nn true p fun (b o : Nat) =>
 (0 ≤ x ∧ x < (↑n : Int)) ∧
 ∃ (x_2 : ByteArray),
 (∀ (w' : World), S w' → w'.cell? (Addr.mk b (o + x.toNat * 4) none) = some (Value.string x_2)) ∧
 (9223372036854775807 - (↑(x_2.size + (ByteArray.mk #[32]).size) : Int)).NonNeg ∧
 nn true p fun (b o : Nat) =>
 (0 ≤ x ∧ x < (↑n : Int)) ∧
 ∃ (x_3 : Int),
 (∀ (w' : World),
 S w' → w'.cell? (Addr.mk b (o + x.toNat * 4 + 1) none) = some (Value.int IntKind.i64 x_3)) ∧
 CallsS Tryz.prog 57 #[Value.int IntKind.i64 x_3] W fun (e : Ending) (w'_1 : World) =>
 ∃ (x_4 : ByteArray),
 e = Ending.returned (Value.string x_4) ∧
 S w'_1 ∧
 (9223372036854775807 - (↑((x_2 ++ ByteArray.mk #[32]).size + x_4.size) : Int)).NonNeg ∧
 (9223372036854775807 - (↑(x_1.size + (x_2 ++ ByteArray.mk #[32] ++ x_4).size) : Int)).NonNeg ∧
 KeptL [] W w'_1 ∧
 nn true p fun (b o : Nat) =>
 (0 ≤ x ∧ x < (↑n : Int)) ∧
 ∃ (x_5 : Bool),
 w'_1.cell? (Addr.mk b (o + x.toNat * 4 + 3) none) = some (Value.bool x_5) ∧
 bsp x_5
 ((9223372036854775807 -
 (↑((x_1 ++ (x_2 ++ ByteArray.mk #[32] ++ x_4)).size +
 (ByteArray.mk #[32, 110]).size) :
 Int)).NonNeg ∧
 nn true p fun (b o : Nat) =>
 (0 ≤ x ∧ x < (↑n : Int)) ∧
 ∃ (p_1 : Option Addr),
 ∃ (n_1 : Nat),
 ∃ (c : Nat),
 w'_1.cell? (Addr.mk b (o + x.toNat * 4 + 2) none) = some (Value.slice p_1 n_1 c) ∧
 bsp (decide ((↑n_1 : Int) > 0))
 (nn true p fun (b o : Nat) =>
 (0 ≤ x ∧ x < (↑n : Int)) ∧
 ∃ (p : Option Addr),
 ∃ (n : Nat),
 ∃ (c : Nat),
 w'_1.cell? (Addr.mk b (o + x.toNat * 4 + 2) none) =
 some (Value.slice p n c) ∧
 CallsS Tryz.prog 58 #[Value.slice p n c] w'_1
 fun (e : Ending) (w'_2 : World) =>
 ∃ (x_6 : ByteArray),
 e = Ending.returned (Value.string x_6) ∧
 KeptL [] w'_1 w'_2 ∧
 (9223372036854775807 -
 (↑((ByteArray.mk #[32]).size + x_6.size) : Int)).NonNeg ∧
 (9223372036854775807 -
 (↑((x_1 ++ (x_2 ++ ByteArray.mk #[32] ++ x_4) ++
 ByteArray.mk #[32, 110]).size +
 (ByteArray.mk #[32] ++ x_6).size) :
 Int)).NonNeg ∧
 (9223372036854775807 -
 (↑((x_1 ++ (x_2 ++ ByteArray.mk #[32] ++ x_4) ++
 ByteArray.mk #[32, 110] ++
 (ByteArray.mk #[32] ++ x_6)).size +
 (ByteArray.mk #[10]).size) :
 Int)).NonNeg ∧
 I
 [Value.int IntKind.i64 (IntKind.i64.wrap (x + 1)),
 Value.string
 (x_1 ++ (x_2 ++ ByteArray.mk #[32] ++ x_4) ++
 ByteArray.mk #[32, 110] ++
 (ByteArray.mk #[32] ++ x_6) ++
 ByteArray.mk #[10])]
 w'_2 ∧
 m
 [Value.int IntKind.i64 (IntKind.i64.wrap (x + 1)),
 Value.string
 (x_1 ++ (x_2 ++ ByteArray.mk #[32] ++ x_4) ++
 ByteArray.mk #[32, 110] ++
 (ByteArray.mk #[32] ++ x_6) ++
 ByteArray.mk #[10])]
 w'_2 <
 m [Value.int IntKind.i64 x, Value.string x_1] w')
 ((9223372036854775807 -
 (↑((x_1 ++ (x_2 ++ ByteArray.mk #[32] ++ x_4) ++
 ByteArray.mk #[32, 110]).size +
 (ByteArray.mk #[10]).size) :
 Int)).NonNeg ∧
 I
 [Value.int IntKind.i64 (IntKind.i64.wrap (x + 1)),
 Value.string
 (x_1 ++ (x_2 ++ ByteArray.mk #[32] ++ x_4) ++ ByteArray.mk #[32, 110] ++
 ByteArray.mk #[10])]
 w'_1 ∧
 m
 [Value.int IntKind.i64 (IntKind.i64.wrap (x + 1)),
 Value.string
 (x_1 ++ (x_2 ++ ByteArray.mk #[32] ++ x_4) ++ ByteArray.mk #[32, 110] ++
 ByteArray.mk #[10])]
 w'_1 <
 m [Value.int IntKind.i64 x, Value.string x_1] w'))
 ((9223372036854775807 -
 (↑((x_1 ++ (x_2 ++ ByteArray.mk #[32] ++ x_4)).size +
 (ByteArray.mk #[32, 121]).size) :
 Int)).NonNeg ∧
 nn true p fun (b o : Nat) =>
 (0 ≤ x ∧ x < (↑n : Int)) ∧
 ∃ (p_1 : Option Addr),
 ∃ (n_1 : Nat),
 ∃ (c : Nat),
 w'_1.cell? (Addr.mk b (o + x.toNat * 4 + 2) none) = some (Value.slice p_1 n_1 c) ∧
 bsp (decide ((↑n_1 : Int) > 0))
 (nn true p fun (b o : Nat) =>
 (0 ≤ x ∧ x < (↑n : Int)) ∧
 ∃ (p : Option Addr),
 ∃ (n : Nat),
 ∃ (c : Nat),
 w'_1.cell? (Addr.mk b (o + x.toNat * 4 + 2) none) =
 some (Value.slice p n c) ∧
 CallsS Tryz.prog 58 #[Value.slice p n c] w'_1
 fun (e : Ending) (w'_2 : World) =>
 ∃ (x_6 : ByteArray),
 e = Ending.returned (Value.string x_6) ∧
 KeptL [] w'_1 w'_2 ∧
 (9223372036854775807 -
 (↑((ByteArray.mk #[32]).size + x_6.size) : Int)).NonNeg ∧
 (9223372036854775807 -
 (↑((x_1 ++ (x_2 ++ ByteArray.mk #[32] ++ x_4) ++
 ByteArray.mk #[32, 121]).size +
 (ByteArray.mk #[32] ++ x_6).size) :
 Int)).NonNeg ∧
 (9223372036854775807 -
 (↑((x_1 ++ (x_2 ++ ByteArray.mk #[32] ++ x_4) ++
 ByteArray.mk #[32, 121] ++
 (ByteArray.mk #[32] ++ x_6)).size +
 (ByteArray.mk #[10]).size) :
 Int)).NonNeg ∧
 I
 [Value.int IntKind.i64 (IntKind.i64.wrap (x + 1)),
 Value.string
 (x_1 ++ (x_2 ++ ByteArray.mk #[32] ++ x_4) ++
 ByteArray.mk #[32, 121] ++
 (ByteArray.mk #[32] ++ x_6) ++
 ByteArray.mk #[10])]
 w'_2 ∧
 m
 [Value.int IntKind.i64 (IntKind.i64.wrap (x + 1)),
 Value.string
 (x_1 ++ (x_2 ++ ByteArray.mk #[32] ++ x_4) ++
 ByteArray.mk #[32, 121] ++
 (ByteArray.mk #[32] ++ x_6) ++
 ByteArray.mk #[10])]
 w'_2 <
 m [Value.int IntKind.i64 x, Value.string x_1] w')
 ((9223372036854775807 -
 (↑((x_1 ++ (x_2 ++ ByteArray.mk #[32] ++ x_4) ++
 ByteArray.mk #[32, 121]).size +
 (ByteArray.mk #[10]).size) :
 Int)).NonNeg ∧
 I
 [Value.int IntKind.i64 (IntKind.i64.wrap (x + 1)),
 Value.string
 (x_1 ++ (x_2 ++ ByteArray.mk #[32] ++ x_4) ++ ByteArray.mk #[32, 121] ++
 ByteArray.mk #[10])]
 w'_1 ∧
 m
 [Value.int IntKind.i64 (IntKind.i64.wrap (x + 1)),
 Value.string
 (x_1 ++ (x_2 ++ ByteArray.mk #[32] ++ x_4) ++ ByteArray.mk #[32, 121] ++
 ByteArray.mk #[10])]
 w'_1 <
 m [Value.int IntKind.i64 x, Value.string x_1] w')))
 (R (Ending.returned (Value.string x_1)) w')
theorem vc_acxprint (p : Option Addr) (n : Nat) (c : Nat) (w : World) (R : Ending → World → Prop) (h : VC_acxprint p n c w R) : Calls Tryz.prog 23 ([Value.slice
    p n c] : List Value).toArray w R := by
  have e : execR2 { P := Tryz.prog, loops := [(3, [(4, Ck.int IntKind.i64), (3, Ck.str)])], pur := pur1, tails := [(5, 12)], joins := [], boxes := [] } Tryz.f23.results.toList R (Tryz.f23.body.getD .skip) (initF [Value.slice
    p n c] (Tryz.f23.ntmps - ([Value.slice p n c] : List Value).length)) w = VC_acxprint p n c w R := by kernel_rfl
  have hb : Tryz.f23.body = some (Tryz.f23.body.getD .skip) := by kernel_rfl
  exact calls_of_exec2' (P := Tryz.prog) (fn := Tryz.f23) (c := Tryz.f23.body.getD .skip) (args := [Value.slice p n
    c]) (w := w) (R := R) pur1_ok Tryz.func23 hb e h

end Go.Proofs.YtgmmoghagpmpfaaGreatDoor
