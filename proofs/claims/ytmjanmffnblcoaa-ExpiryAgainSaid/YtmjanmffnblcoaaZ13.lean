/- The formulas of functions by the symbolic evaluator, and that each gives the call's contract. Written by a program (gen.py). No condition. -/
import Derived.Test.YtmjanmffnblcoaaProg
import Derived.Test.YtmjanmffnblcoaaZ02
import Derived.Test.YtmjanmffnblcoaaZ08
import Derived.Test.YtmjanmffnblcoaaZ04
import Derived.KernelRfl
import Derived.Test.YtmjanmffnblcoaaZ12
namespace Go.Proofs.Ytmjanmffnblcoaa
set_option maxRecDepth 100000
set_option linter.unusedVariables false

def VC_lsmall (p : Option Addr) (n : Nat) (c : Nat) (q : Option Addr) (k : Nat) (d : Nat) (w : World) (R : Ending → World → Prop) : Prop :=
 ∃ (I : List Value → World → Prop),
 ∃ (m : List Value → World → Nat),
 I [Value.int IntKind.i64 0] w ∧
 ∀ (x : Int) (w' : World),
 I [Value.int IntKind.i64 x] w' →
 bsp (decide (x < (↑n : Int)))
 (nn true p fun (b o : Nat) =>
 (0 ≤ x ∧ x < (↑n : Int)) ∧
 ∃ (x_1 : ByteArray),
 w'.cell? (Addr.mk b (o + x.toNat * 3) none) = some (Value.string x_1) ∧
 bsp (decide ((↑x_1.size : Int) > 100)) (R (Ending.returned (Value.bool false)) w')
 (I [Value.int IntKind.i64 (IntKind.i64.wrap (x + 1))] w' ∧
 m [Value.int IntKind.i64 (IntKind.i64.wrap (x + 1))] w' < m [Value.int IntKind.i64 x] w'))
 (∃ (I : List Value → World → Prop),
 ∃ (m : List Value → World → Nat),
 I [Value.int IntKind.i64 0] w' ∧
 ∀ (x : Int) (w' : World),
 I [Value.int IntKind.i64 x] w' →
 bsp (decide (x < (↑k : Int)))
 (nn true q fun (b o : Nat) =>
 (0 ≤ x ∧ x < (↑k : Int)) ∧
 ∃ (p : Option Addr),
 ∃ (n : Nat),
 ∃ (c : Nat),
 w'.cell? (Addr.mk b (o + x.toNat * 39 + 34) none) = some (Value.slice p n c) ∧
 nn (!decide ((↑n : Int) > 5)) q fun (b o : Nat) =>
 gimp (!decide ((↑n : Int) > 5)) (0 ≤ x ∧ x < (↑k : Int)) ∧
 ∃ (p : Option Addr),
 ∃ (n_1 : Nat),
 ∃ (c : Nat),
 gimp (!decide ((↑n : Int) > 5))
 (w'.cell? (Addr.mk b (o + x.toNat * 39 + 37) none) = some (Value.slice p n_1 c)) ∧
 bsp (decide ((↑n : Int) > 5) || decide ((↑n_1 : Int) > 5))
 (R (Ending.returned (Value.bool false)) w')
 (∃ (I_1 : List Value → World → Prop),
 ∃ (m_1 : List Value → World → Nat),
 I_1 [Value.int IntKind.i64 0] w' ∧
 ∀ (x_1 : Int) (w'_1 : World),
 I_1 [Value.int IntKind.i64 x_1] w'_1 →
 nn true q fun (b o : Nat) =>
 (0 ≤ x ∧ x < (↑k : Int)) ∧
 ∃ (p : Option Addr),
 ∃ (n : Nat),
 ∃ (c : Nat),
 w'_1.cell? (Addr.mk b (o + x.toNat * 39 + 34) none) = some (Value.slice p n c) ∧
 bsp (decide (x_1 < (↑n : Int)))
 (nn true q fun (b o : Nat) =>
 (0 ≤ x ∧ x < (↑k : Int)) ∧
 ∃ (p : Option Addr),
 ∃ (n : Nat),
 ∃ (c : Nat),
 w'_1.cell? (Addr.mk b (o + x.toNat * 39 + 34) none) =
 some (Value.slice p n c) ∧
 nn true p fun (b o : Nat) =>
 (0 ≤ x_1 ∧ x_1 < (↑n : Int)) ∧
 ∃ (x : ByteArray),
 w'_1.cell? (Addr.mk b (o + x_1.toNat) none) = some (Value.string x) ∧
 bsp (decide ((↑x.size : Int) > 60))
 (R (Ending.returned (Value.bool false)) w'_1)
 (I_1 [Value.int IntKind.i64 (IntKind.i64.wrap (x_1 + 1))] w'_1 ∧
 m_1 [Value.int IntKind.i64 (IntKind.i64.wrap (x_1 + 1))] w'_1 <
 m_1 [Value.int IntKind.i64 x_1] w'_1))
 (I [Value.int IntKind.i64 (IntKind.i64.wrap (x + 1))] w'_1 ∧
 m [Value.int IntKind.i64 (IntKind.i64.wrap (x + 1))] w'_1 <
 m [Value.int IntKind.i64 x] w')))
 (R (Ending.returned (Value.bool (decide ((↑n : Int) ≤ 10) && decide ((↑k : Int) ≤ 12)))) w'))
theorem vc_lsmall (p : Option Addr) (n : Nat) (c : Nat) (q : Option Addr) (k : Nat) (d : Nat) (w : World) (R : Ending → World → Prop) (h : VC_lsmall p n c q k d w R) : Calls Try.prog 11 ([Value.slice
    p n c,
  Value.slice q k d] : List Value).toArray w R := by
  have e : execR2 { P := Try.prog, loops := [(2, [(5, Ck.int IntKind.i64)]), (7, [(6, Ck.int IntKind.i64)]), (12, [(7, Ck.int IntKind.i64)])], pur := pur2, tails := [], joins := [], boxes := [] } Try.f11.results.toList R (Try.f11.body.getD .skip) (initF [Value.slice
    p n c,
  Value.slice q k
    d] (Try.f11.ntmps - ([Value.slice p n c,
  Value.slice q k d] : List Value).length)) w = VC_lsmall p n c q k d w R := by kernel_rfl
  have hb : Try.f11.body = some (Try.f11.body.getD .skip) := by kernel_rfl
  exact calls_of_exec2' (P := Try.prog) (fn := Try.f11) (c := Try.f11.body.getD .skip) (args := [Value.slice p n c,
  Value.slice q k d]) (w := w) (R := R) pur2_ok Try.func11 hb e h

def VC_lrules (p : Option Addr) (n : Nat) (c : Nat) (w : World) (R : Ending → World → Prop) : Prop :=
 ∃ (I : List Value → World → Prop),
 ∃ (m : List Value → World → Nat),
 I [Value.int IntKind.i64 0, Value.slice none 0 0] w ∧
 ∀ (x : Int) (p_1 : Option Addr) (n_1 c : Nat) (w' : World),
 I [Value.int IntKind.i64 x, Value.slice p_1 n_1 c] w' →
 bsp (decide (x < (↑n : Int)))
 (∀ (W : World),
 Loc w.heap.size [] w' W →
 ∃ (S : World → Prop),
 S W ∧
 nn true p fun (b o : Nat) =>
 (0 ≤ x ∧ x < (↑n : Int)) ∧
 ∃ (x_1 : ByteArray),
 (∀ (w' : World), S w' → w'.cell? (Addr.mk b (o + x.toNat * 3) none) = some (Value.string x_1)) ∧
 nn true p fun (b o : Nat) =>
 (0 ≤ x ∧ x < (↑n : Int)) ∧
 ∃ (x_2 : Int),
 (∀ (w' : World),
 S w' → w'.cell? (Addr.mk b (o + x.toNat * 3 + 1) none) = some (Value.int IntKind.i64 x_2)) ∧
 nn true p fun (b o : Nat) =>
 (0 ≤ x ∧ x < (↑n : Int)) ∧
 ∃ (x_3 : Int),
 (∀ (w' : World),
 S w' → w'.cell? (Addr.mk b (o + x.toNat * 3 + 2) none) = some (Value.int IntKind.i64 x_3)) ∧
 ∀ (n : Nat) (w1 : World),
 NewB W (Obj.cells #[Value.string x_1, Value.int IntKind.i64 x_2, Value.int IntKind.i64 x_3] 68) n
 w1 →
 ∃ (base : Nat),
 ∃ (xs : List Value),
 ∃ (news : List Value),
 w1.ownsRow base 68 3 (Value.slice p_1 n_1 c) n_1 xs ∧
 news.length = 3 ∧
 SrcP w1 (some (Addr.mk n 0 none)) news ∧
 n_1 + 1 ≤ 9223372036854775807 ∧
 (n_1 + 1) * 32 ≤ 140737488355328 ∧
 base ≤ w1.heap.size ∧
 ∀ (p' : Option Addr) (c' : Nat) (w'_1 : World),
 w'_1.ownsRow base 68 3 (Value.slice p' (n_1 + 1) c') (n_1 + 1) (xs ++ news) →
 w1.grownBy w'_1 (Value.slice p_1 n_1 c).ownBlock →
 (n_1 + 1 ≤ c → p' = p_1 ∧ c' = c) →
 KeptL [] W w'_1 ∧
 I [Value.int IntKind.i64 (IntKind.i64.wrap (x + 1)), Value.slice p' (n_1 + 1) c']
 w'_1 ∧
 m [Value.int IntKind.i64 (IntKind.i64.wrap (x + 1)), Value.slice p' (n_1 + 1) c']
 w'_1 <
 m [Value.int IntKind.i64 x, Value.slice p_1 n_1 c] w')
 (R (Ending.returned (Value.slice p_1 n_1 c)) w')
theorem vc_lrules (p : Option Addr) (n : Nat) (c : Nat) (w : World) (R : Ending → World → Prop) (h : VC_lrules p n c w R) : Calls Try.prog 12 ([Value.slice
    p n c] : List Value).toArray w R := by
  have e : execR2 { P := Try.prog, loops := [(3, [(4, Ck.int IntKind.i64), (3, Ck.slice)])], pur := pur2, tails := [(5, 17)], joins := [], boxes := [] } Try.f12.results.toList R (Try.f12.body.getD .skip) (initF [Value.slice
    p n c] (Try.f12.ntmps - ([Value.slice p n c] : List Value).length)) w = VC_lrules p n c w R := by kernel_rfl
  have hb : Try.f12.body = some (Try.f12.body.getD .skip) := by kernel_rfl
  exact calls_of_exec2' (P := Try.prog) (fn := Try.f12) (c := Try.f12.body.getD .skip) (args := [Value.slice p n
    c]) (w := w) (R := R) pur2_ok Try.func12 hb e h

def VC_lids (p : Option Addr) (n : Nat) (c : Nat) (w : World) (R : Ending → World → Prop) : Prop :=
 ∃ (I : List Value → World → Prop),
 ∃ (m : List Value → World → Nat),
 I [Value.int IntKind.i64 0, Value.slice none 0 0] w ∧
 ∀ (x : Int) (p_1 : Option Addr) (n_1 c : Nat) (w' : World),
 I [Value.int IntKind.i64 x, Value.slice p_1 n_1 c] w' →
 bsp (decide (x < (↑n : Int)))
 (nn true p fun (b o : Nat) =>
 (0 ≤ x ∧ x < (↑n : Int)) ∧
 ∃ (f : Nat → Int),
 AtL w' b (o + x.toNat * 32)
 (arrI IntKind.u8 f 32 0) ∧
 ∀ (n : Nat) (W : World),
 Loc w.heap.size
 [Blk.mk n 38
 (arrI IntKind.u8 f 32 0)
 2]
 w' W →
 ∃ (base : Nat),
 ∃ (xs : List Value),
 W.ownsRow base 38 32 (Value.slice p_1 n_1 c) n_1 xs ∧
 n_1 + 1 ≤ 9223372036854775807 ∧
 (n_1 + 1) * 32 ≤ 140737488355328 ∧
 base ≤ W.heap.size ∧
 ∀ (p' : Option Addr) (c' : Nat) (w'_1 : World),
 w'_1.ownsRow base 38 32 (Value.slice p' (n_1 + 1) c') (n_1 + 1)
 (xs ++
 (arrI IntKind.u8 f 32 0)) →
 W.grownBy w'_1 (Value.slice p_1 n_1 c).ownBlock →
 (n_1 + 1 ≤ c → p' = p_1 ∧ c' = c) →
 KeptL [] W w'_1 ∧
 I [Value.int IntKind.i64 (IntKind.i64.wrap (x + 1)), Value.slice p' (n_1 + 1) c'] w'_1 ∧
 m [Value.int IntKind.i64 (IntKind.i64.wrap (x + 1)), Value.slice p' (n_1 + 1) c'] w'_1 <
 m [Value.int IntKind.i64 x, Value.slice p_1 n_1 c] w')
 (R (Ending.returned (Value.slice p_1 n_1 c)) w')
theorem vc_lids (p : Option Addr) (n : Nat) (c : Nat) (w : World) (R : Ending → World → Prop) (h : VC_lids p n c w R) : Calls Try.prog 34 ([Value.slice
    p n c] : List Value).toArray w R := by
  have e : execR2 { P := Try.prog, loops := [(3, [(4, Ck.int IntKind.i64), (3, Ck.slice)])], pur := pur2, tails := [], joins := [], boxes := [] } Try.f34.results.toList R (Try.f34.body.getD .skip) (initF [Value.slice
    p n c] (Try.f34.ntmps - ([Value.slice p n c] : List Value).length)) w = VC_lids p n c w R := by kernel_rfl
  have hb : Try.f34.body = some (Try.f34.body.getD .skip) := by kernel_rfl
  exact calls_of_exec2' (P := Try.prog) (fn := Try.f34) (c := Try.f34.body.getD .skip) (args := [Value.slice p n
    c]) (w := w) (R := R) pur2_ok Try.func34 hb e h

def VC_larticle (id : Nat → Int) (dt : Int) (ar : Int) (gp : Option Addr) (gn : Nat) (gc : Nat) (by_ : Int) (ct : Int) (hp : Option Addr) (hn : Nat) (hc : Nat) (wd : Bool) (w : World) (R : Ending → World → Prop) : Prop :=
 ∀ (n n_1 : Nat) (W : World),
 Loc w.heap.size
 [Blk.mk n_1 42
 [Value.int IntKind.u8 0, Value.int IntKind.u8 0, Value.int IntKind.u8 0, Value.int IntKind.u8 0,
 Value.int IntKind.u8 0, Value.int IntKind.u8 0, Value.int IntKind.u8 0, Value.int IntKind.u8 0,
 Value.int IntKind.u8 0, Value.int IntKind.u8 0, Value.int IntKind.u8 0, Value.int IntKind.u8 0,
 Value.int IntKind.u8 0, Value.int IntKind.u8 0, Value.int IntKind.u8 0, Value.int IntKind.u8 0,
 Value.int IntKind.u8 0, Value.int IntKind.u8 0, Value.int IntKind.u8 0, Value.int IntKind.u8 0,
 Value.int IntKind.u8 0, Value.int IntKind.u8 0, Value.int IntKind.u8 0, Value.int IntKind.u8 0,
 Value.int IntKind.u8 0, Value.int IntKind.u8 0, Value.int IntKind.u8 0, Value.int IntKind.u8 0,
 Value.int IntKind.u8 0, Value.int IntKind.u8 0, Value.int IntKind.u8 0, Value.int IntKind.u8 0,
 Value.int IntKind.i64 0, Value.int IntKind.i64 0, Value.slice none 0 0, Value.int IntKind.i64 0,
 Value.int IntKind.i64 0, Value.slice none 0 0, Value.bool false]
 2,
 Blk.mk n 48
 (arrI IntKind.u8 id 32 0 ++ [Value.int IntKind.i64 dt, Value.int IntKind.i64 ar,
 Value.slice gp gn gc, Value.int IntKind.i64 by_, Value.int IntKind.i64 ct, Value.slice hp hn hc, Value.bool wd])
 2]
 w W →
 ∃ (S : World → Prop),
 S W ∧
 ∃ (f : Nat → Int),
 (∀ (w' : World),
 S w' →
 AtL w' n 0
 (arrI IntKind.u8 f 32 0)) ∧
 ∃ (x : Int),
 (∀ (w' : World), S w' → w'.cell? (Addr.mk n (0 + 32) none) = some (Value.int IntKind.i64 x)) ∧
 ∃ (x_1 : Int),
 (∀ (w' : World), S w' → w'.cell? (Addr.mk n (0 + 33) none) = some (Value.int IntKind.i64 x_1)) ∧
 ∃ (p : Option Addr),
 ∃ (n_2 : Nat),
 ∃ (c : Nat),
 (∀ (w' : World), S w' → w'.cell? (Addr.mk n (0 + 34) none) = some (Value.slice p n_2 c)) ∧
 ∃ (x_2 : Int),
 (∀ (w' : World), S w' → w'.cell? (Addr.mk n (0 + 35) none) = some (Value.int IntKind.i64 x_2)) ∧
 ∃ (x_3 : Int),
 (∀ (w' : World), S w' → w'.cell? (Addr.mk n (0 + 36) none) = some (Value.int IntKind.i64 x_3)) ∧
 ∃ (p_1 : Option Addr),
 ∃ (n_3 : Nat),
 ∃ (c_1 : Nat),
 (∀ (w' : World), S w' → w'.cell? (Addr.mk n (0 + 37) none) = some (Value.slice p_1 n_3 c_1)) ∧
 ∃ (x_4 : Bool),
 (∀ (w' : World), S w' → w'.cell? (Addr.mk n (0 + 38) none) = some (Value.bool x_4)) ∧
 CallsS Try.prog 34 #[Value.slice p_1 n_3 c_1] W fun (e : Ending) (w' : World) =>
 ∃ (p_2 : Option Addr),
 ∃ (n_4 : Nat),
 ∃ (c_2 : Nat),
 e = Ending.returned (Value.slice p_2 n_4 c_2) ∧
 S w' ∧
 WrL w' n_1 0 39 ∧
 ∀ (w1 : World),
 PutB w' n_1 0
 (arrI IntKind.u8 f 32 0 ++ [Value.int IntKind.i64 x,
 Value.int IntKind.i64 x_1, Value.slice p n_2 c, Value.int IntKind.i64 x_2,
 Value.int IntKind.i64 x_3, Value.slice p_2 n_4 c_2, Value.bool x_4])
 w1 →
 KeptL [n] W w1 ∧
 ∃ (f : Nat → Int),
 ∃ (x : Int),
 ∃ (x_5 : Int),
 ∃ (p : Option Addr),
 ∃ (n : Nat),
 ∃ (c : Nat),
 ∃ (x_6 : Int),
 ∃ (x_7 : Int),
 ∃ (p_3 : Option Addr),
 ∃ (n_5 : Nat),
 ∃ (c_3 : Nat),
 ∃ (x_8 : Bool),
 AtL w1 n_1 0
 (arrI IntKind.u8 f 32 0 ++ [Value.int IntKind.i64 x, Value.int IntKind.i64 x_5, Value.slice p n c,
 Value.int IntKind.i64 x_6, Value.int IntKind.i64 x_7,
 Value.slice p_3 n_5 c_3, Value.bool x_8]) ∧
 R
 (Ending.returned
 (Value.agg
 (arrI IntKind.u8 f 32 0 ++ [Value.int IntKind.i64 x, Value.int IntKind.i64 x_5,
 Value.slice p n c, Value.int IntKind.i64 x_6,
 Value.int IntKind.i64 x_7, Value.slice p_3 n_5 c_3, Value.bool x_8]).toArray))
 w1
theorem vc_larticle (id : Nat → Int) (dt : Int) (ar : Int) (gp : Option Addr) (gn : Nat) (gc : Nat) (by_ : Int) (ct : Int) (hp : Option Addr) (hn : Nat) (hc : Nat) (wd : Bool) (w : World) (R : Ending → World → Prop) (h : VC_larticle id dt ar gp gn gc by_ ct hp hn hc wd w R) : Calls Try.prog 16 ([Value.agg
    (arrI IntKind.u8 id 32 0 ++
        [Value.int IntKind.i64 dt, Value.int IntKind.i64 ar, Value.slice gp gn gc, Value.int IntKind.i64 by_,
          Value.int IntKind.i64 ct, Value.slice hp hn hc, Value.bool wd]).toArray] : List Value).toArray w R := by
  have e : execR2 { P := Try.prog, loops := [], pur := pur2, tails := [(1, 14)], joins := [], boxes := [] } Try.f16.results.toList R (Try.f16.body.getD .skip) (initF [Value.agg
    (arrI IntKind.u8 id 32 0 ++
        [Value.int IntKind.i64 dt, Value.int IntKind.i64 ar, Value.slice gp gn gc, Value.int IntKind.i64 by_,
          Value.int IntKind.i64 ct, Value.slice hp hn hc,
          Value.bool
            wd]).toArray] (Try.f16.ntmps - ([Value.agg
    (arrI IntKind.u8 id 32 0 ++
        [Value.int IntKind.i64 dt, Value.int IntKind.i64 ar, Value.slice gp gn gc, Value.int IntKind.i64 by_,
          Value.int IntKind.i64 ct, Value.slice hp hn hc,
          Value.bool
            wd]).toArray] : List Value).length)) w = VC_larticle id dt ar gp gn gc by_ ct hp hn hc wd w R := by kernel_rfl
  have hb : Try.f16.body = some (Try.f16.body.getD .skip) := by kernel_rfl
  exact calls_of_exec2' (P := Try.prog) (fn := Try.f16) (c := Try.f16.body.getD .skip) (args := [Value.agg
    (arrI IntKind.u8 id 32 0 ++
        [Value.int IntKind.i64 dt, Value.int IntKind.i64 ar, Value.slice gp gn gc, Value.int IntKind.i64 by_,
          Value.int IntKind.i64 ct, Value.slice hp hn hc,
          Value.bool wd]).toArray]) (w := w) (R := R) pur2_ok Try.func16 hb e h

def VC_larticles (p : Option Addr) (n : Nat) (c : Nat) (w : World) (R : Ending → World → Prop) : Prop :=
 ∃ (I : List Value → World → Prop),
 ∃ (m : List Value → World → Nat),
 I [Value.int IntKind.i64 0, Value.slice none 0 0] w ∧
 ∀ (x : Int) (p_1 : Option Addr) (n_1 c : Nat) (w' : World),
 I [Value.int IntKind.i64 x, Value.slice p_1 n_1 c] w' →
 bsp (decide (x < (↑n : Int)))
 (nn true p fun (b o : Nat) =>
 (0 ≤ x ∧ x < (↑n : Int)) ∧
 ∃ (f : Nat → Int),
 ∃ (x_1 : Int),
 ∃ (x_2 : Int),
 ∃ (p : Option Addr),
 ∃ (n : Nat),
 ∃ (c_1 : Nat),
 ∃ (x_3 : Int),
 ∃ (x_4 : Int),
 ∃ (p_2 : Option Addr),
 ∃ (n_2 : Nat),
 ∃ (c_2 : Nat),
 ∃ (x_5 : Bool),
 AtL w' b (o + x.toNat * 39)
 (arrI IntKind.u8 f 32 0 ++ [Value.int IntKind.i64 x_1,
 Value.int IntKind.i64 x_2, Value.slice p n c_1, Value.int IntKind.i64 x_3,
 Value.int IntKind.i64 x_4, Value.slice p_2 n_2 c_2, Value.bool x_5]) ∧
 CallsS Try.prog 16
 #[Value.agg
 (arrI IntKind.u8 f 32 0 ++ [Value.int IntKind.i64 x_1,
 Value.int IntKind.i64 x_2, Value.slice p n c_1, Value.int IntKind.i64 x_3,
 Value.int IntKind.i64 x_4, Value.slice p_2 n_2 c_2, Value.bool x_5]).toArray]
 w' fun (e : Ending) (w'_1 : World) =>
 ∃ (f : Nat → Int),
 ∃ (x_6 : Int),
 ∃ (x_7 : Int),
 ∃ (p : Option Addr),
 ∃ (n : Nat),
 ∃ (c_3 : Nat),
 ∃ (x_8 : Int),
 ∃ (x_9 : Int),
 ∃ (p_3 : Option Addr),
 ∃ (n_3 : Nat),
 ∃ (c_4 : Nat),
 ∃ (x_10 : Bool),
 e =
 Ending.returned
 (Value.agg
 (arrI IntKind.u8 f 32 0 ++ [Value.int IntKind.i64 x_6, Value.int IntKind.i64 x_7, Value.slice p n c_3,
 Value.int IntKind.i64 x_8, Value.int IntKind.i64 x_9, Value.slice p_3 n_3 c_4,
 Value.bool x_10]).toArray) ∧
 KeptL [] w' w'_1 ∧
 ∀ (n_4 : Nat) (W : World),
 Loc w.heap.size
 [Blk.mk n_4 42
 (arrI IntKind.u8 f 32 0 ++ [Value.int IntKind.i64 x_6, Value.int IntKind.i64 x_7, Value.slice p n c_3,
 Value.int IntKind.i64 x_8, Value.int IntKind.i64 x_9, Value.slice p_3 n_3 c_4,
 Value.bool x_10])
 2]
 w'_1 W →
 ∃ (base : Nat),
 ∃ (xs : List Value),
 W.ownsRow base 42 39 (Value.slice p_1 n_1 c) n_1 xs ∧
 n_1 + 1 ≤ 9223372036854775807 ∧
 (n_1 + 1) * 120 ≤ 140737488355328 ∧
 base ≤ W.heap.size ∧
 ∀ (p' : Option Addr) (c' : Nat) (w'_2 : World),
 w'_2.ownsRow base 42 39 (Value.slice p' (n_1 + 1) c') (n_1 + 1)
 (xs ++
 (arrI IntKind.u8 f 32 0 ++ [Value.int IntKind.i64 x_6, Value.int IntKind.i64 x_7,
 Value.slice p n c_3, Value.int IntKind.i64 x_8,
 Value.int IntKind.i64 x_9, Value.slice p_3 n_3 c_4, Value.bool x_10])) →
 W.grownBy w'_2 (Value.slice p_1 n_1 c).ownBlock →
 (n_1 + 1 ≤ c → p' = p_1 ∧ c' = c) →
 KeptL [] W w'_2 ∧
 I
 [Value.int IntKind.i64 (IntKind.i64.wrap (x + 1)),
 Value.slice p' (n_1 + 1) c']
 w'_2 ∧
 m
 [Value.int IntKind.i64 (IntKind.i64.wrap (x + 1)),
 Value.slice p' (n_1 + 1) c']
 w'_2 <
 m [Value.int IntKind.i64 x, Value.slice p_1 n_1 c] w')
 (R (Ending.returned (Value.slice p_1 n_1 c)) w')
theorem vc_larticles (p : Option Addr) (n : Nat) (c : Nat) (w : World) (R : Ending → World → Prop) (h : VC_larticles p n c w R) : Calls Try.prog 13 ([Value.slice
    p n c] : List Value).toArray w R := by
  have e : execR2 { P := Try.prog, loops := [(3, [(4, Ck.int IntKind.i64), (3, Ck.slice)])], pur := pur2, tails := [], joins := [], boxes := [] } Try.f13.results.toList R (Try.f13.body.getD .skip) (initF [Value.slice
    p n c] (Try.f13.ntmps - ([Value.slice p n c] : List Value).length)) w = VC_larticles p n c w R := by kernel_rfl
  have hb : Try.f13.body = some (Try.f13.body.getD .skip) := by kernel_rfl
  exact calls_of_exec2' (P := Try.prog) (fn := Try.f13) (c := Try.f13.body.getD .skip) (args := [Value.slice p n
    c]) (w := w) (R := R) pur2_ok Try.func13 hb e h

def VC_lsame (p : Option Addr) (n : Nat) (c : Nat) (q : Option Addr) (k : Nat) (d : Nat) (w : World) (R : Ending → World → Prop) : Prop :=
 bsp ((↑n : Int) != (↑k : Int)) (R (Ending.returned (Value.bool false)) w)
 (∃ (I : List Value → World → Prop),
 ∃ (m : List Value → World → Nat),
 I [Value.int IntKind.i64 0] w ∧
 ∀ (x : Int) (w' : World),
 I [Value.int IntKind.i64 x] w' →
 bsp (decide (x < (↑n : Int)))
 (nn true p fun (b o : Nat) =>
 (0 ≤ x ∧ x < (↑n : Int)) ∧
 ∃ (f : Nat → Int),
 (∀ (W : World),
 Loc w.heap.size [] w' W →
 AtL W b (o + x.toNat * 33)
 (arrI IntKind.u8 f 32 0)) ∧
 nn true q fun (b o : Nat) =>
 (0 ≤ x ∧ x < (↑k : Int)) ∧
 ∃ (f_1 : Nat → Int),
 (∀ (W : World),
 Loc w.heap.size [] w' W →
 AtL W b (o + x.toNat * 33)
 (arrI IntKind.u8 f_1 32 0)) ∧
 ∃ (r : Bool),
 EqP Try.prog 38
 (Value.agg
 (arrI IntKind.u8 f 32 0).toArray)
 (Value.agg
 (arrI IntKind.u8 f_1 32 0).toArray)
 r ∧
 nn (!!r) p fun (b o : Nat) =>
 gimp (!!r) (0 ≤ x ∧ x < (↑n : Int)) ∧
 ∃ (x_1 : Int),
 gimp (!!r)
 (∀ (W : World),
 Loc w.heap.size [] w' W →
 W.cell? (Addr.mk b (o + x.toNat * 33 + 32) none) = some (Value.int IntKind.i64 x_1)) ∧
 nn (!!r) q fun (b o : Nat) =>
 gimp (!!r) (0 ≤ x ∧ x < (↑k : Int)) ∧
 ∃ (x_2 : Int),
 gimp (!!r)
 (∀ (W : World),
 Loc w.heap.size [] w' W →
 W.cell? (Addr.mk b (o + x.toNat * 33 + 32) none) = some (Value.int IntKind.i64 x_2)) ∧
 bsp (!r || x_1 != x_2)
 (∀ (W : World), Loc w.heap.size [] w' W → R (Ending.returned (Value.bool false)) W)
 (∀ (W : World),
 Loc w.heap.size [] w' W →
 I [Value.int IntKind.i64 (IntKind.i64.wrap (x + 1))] W ∧
 m [Value.int IntKind.i64 (IntKind.i64.wrap (x + 1))] W < m [Value.int IntKind.i64 x] w'))
 (R (Ending.returned (Value.bool true)) w'))
theorem vc_lsame (p : Option Addr) (n : Nat) (c : Nat) (q : Option Addr) (k : Nat) (d : Nat) (w : World) (R : Ending → World → Prop) (h : VC_lsame p n c q k d w R) : Calls Try.prog 24 ([Value.slice
    p n c,
  Value.slice q k d] : List Value).toArray w R := by
  have e : execR2 { P := Try.prog, loops := [(4, [(5, Ck.int IntKind.i64)])], pur := pur2, tails := [], joins := [], boxes := [] } Try.f24.results.toList R (Try.f24.body.getD .skip) (initF [Value.slice
    p n c,
  Value.slice q k
    d] (Try.f24.ntmps - ([Value.slice p n c,
  Value.slice q k d] : List Value).length)) w = VC_lsame p n c q k d w R := by kernel_rfl
  have hb : Try.f24.body = some (Try.f24.body.getD .skip) := by kernel_rfl
  exact calls_of_exec2' (P := Try.prog) (fn := Try.f24) (c := Try.f24.body.getD .skip) (args := [Value.slice p n c,
  Value.slice q k d]) (w := w) (R := R) pur2_ok Try.func24 hb e h

def VC_lhere (p : Option Addr) (n : Nat) (c : Nat) (f : Nat → Int) (w : World) (R : Ending → World → Prop) : Prop :=
 ∀ (n_1 : Nat) (W : World),
 Loc w.heap.size
 [Blk.mk n_1 38
 (arrI IntKind.u8 f 32 0)
 2]
 w W →
 ∃ (I : List Value → World → Prop),
 ∃ (m : List Value → World → Nat),
 I [Value.int IntKind.i64 0] W ∧
 ∀ (x : Int) (w' : World),
 I [Value.int IntKind.i64 x] w' →
 Loc w.heap.size
 [Blk.mk n_1 38
 (arrI IntKind.u8 f 32 0)
 0]
 w' w' →
 bsp (decide (x < (↑n : Int)))
 (nn true p fun (b o : Nat) =>
 (0 ≤ x ∧ x < (↑n : Int)) ∧
 ∃ (f_1 : Nat → Int),
 (∀ (W : World),
 Loc w.heap.size
 [Blk.mk n_1 38
 (arrI IntKind.u8 f 32 0)
 0]
 w' W →
 AtL W b (o + x.toNat * 39)
 (arrI IntKind.u8 f_1 32 0)) ∧
 ∃ (r : Bool),
 EqP Try.prog 38
 (Value.agg
 (arrI IntKind.u8 f_1 32 0).toArray)
 (Value.agg
 (arrI IntKind.u8 f 32 0).toArray)
 r ∧
 bsp r
 (∀ (W : World),
 Loc w.heap.size
 [Blk.mk n_1 38
 (arrI IntKind.u8 f 32 0)
 0]
 w' W →
 R (Ending.returned (Value.bool true)) W)
 (∀ (W : World),
 Loc w.heap.size
 [Blk.mk n_1 38
 (arrI IntKind.u8 f 32 0)
 0]
 w' W →
 I [Value.int IntKind.i64 (IntKind.i64.wrap (x + 1))] W ∧
 m [Value.int IntKind.i64 (IntKind.i64.wrap (x + 1))] W < m [Value.int IntKind.i64 x] w'))
 (R (Ending.returned (Value.bool false)) w')
theorem vc_lhere (p : Option Addr) (n : Nat) (c : Nat) (f : Nat → Int) (w : World) (R : Ending → World → Prop) (h : VC_lhere p n c f w R) : Calls Try.prog 26 ([Value.slice
    p n c,
  Value.agg (arrI IntKind.u8 f 32 0).toArray] : List Value).toArray w R := by
  have e : execR2 { P := Try.prog, loops := [(2, [(5, Ck.int IntKind.i64)])], pur := pur2, tails := [], joins := [], boxes := [] } Try.f26.results.toList R (Try.f26.body.getD .skip) (initF [Value.slice
    p n c,
  Value.agg
    (arrI IntKind.u8 f 32
        0).toArray] (Try.f26.ntmps - ([Value.slice p n c,
  Value.agg (arrI IntKind.u8 f 32 0).toArray] : List Value).length)) w = VC_lhere p n c f w R := by kernel_rfl
  have hb : Try.f26.body = some (Try.f26.body.getD .skip) := by kernel_rfl
  exact calls_of_exec2' (P := Try.prog) (fn := Try.f26) (c := Try.f26.body.getD .skip) (args := [Value.slice p n c,
  Value.agg (arrI IntKind.u8 f 32 0).toArray]) (w := w) (R := R) pur2_ok Try.func26 hb e h

def VC_lodd (f : Nat → Int) (w : World) (R : Ending → World → Prop) : Prop :=
 ∀ (n : Nat) (W : World),
 Loc w.heap.size
 [Blk.mk n 38
 (arrI IntKind.u8 f 32 0)
 2]
 w W →
 R (Ending.returned (Value.bool ((f 0).tmod 2 == 1))) W
theorem vc_lodd (f : Nat → Int) (w : World) (R : Ending → World → Prop) (h : VC_lodd f w R) : Calls Try.prog 17 ([Value.agg
    (arrI IntKind.u8 f 32 0).toArray] : List Value).toArray w R := by
  have e : execR2 { P := Try.prog, loops := [], pur := pur2, tails := [], joins := [], boxes := [] } Try.f17.results.toList R (Try.f17.body.getD .skip) (initF [Value.agg
    (arrI IntKind.u8 f 32
        0).toArray] (Try.f17.ntmps - ([Value.agg
    (arrI IntKind.u8 f 32 0).toArray] : List Value).length)) w = VC_lodd f w R := by kernel_rfl
  have hb : Try.f17.body = some (Try.f17.body.getD .skip) := by kernel_rfl
  exact calls_of_exec2' (P := Try.prog) (fn := Try.f17) (c := Try.f17.body.getD .skip) (args := [Value.agg
    (arrI IntKind.u8 f 32 0).toArray]) (w := w) (R := R) pur2_ok Try.func17 hb e h

end Go.Proofs.Ytmjanmffnblcoaa

/- Chapter 42, the statements' helpers: the contracts of small, rules, ids, article, articles, same, here, odd. No condition but sizes. -/
namespace Go.Proofs.Ytmjanmffnblcoaa
open Go.RowKit Go.Sort Go.Maps

def smA (x : AX) : Bool := decide (x.gs.length ≤ 5) && decide (x.hs.length ≤ 5) && x.gs.all fun z => decide (z.size ≤ 60)
def smallB (L : List Rl) (l : List AX) : Bool := (L.all fun r => decide (r.pat.size ≤ 100)) && l.all smA && (decide (L.length ≤ 10) && decide (l.length ≤ 12))
theorem all_hit {α : Type} {f : α → Bool} {l : List α} {x : α} (h : x ∈ l) (hf : f x = false) : l.all f = false := List.all_eq_false.2 ⟨x, h, by simp [hf]⟩
theorem all_full {α : Type} {f : α → Bool} {l : List α} (h : ∀ j x, j < l.length → l[j]? = some x → f x = true) : l.all f = true := List.all_eq_true.2 fun x hx => by
  obtain ⟨j, hj, e⟩ := List.getElem_of_mem hx
  exact h j x hj (by rw [List.getElem?_eq_getElem hj, e])
theorem grow_all {α : Type} {P : α → Prop} {l : List α} {i : Nat} {y : α} (h : ∀ j x, j < i → l[j]? = some x → P x) (hy : l[i]? = some y) (hp : P y) : ∀ j x, j < i + 1 → l[j]? = some x → P x := fun j x hj hx => by
  rcases Nat.lt_or_ge j i with h' | h'
  · exact h j x h' hx
  · have : j = i := by omega
    subst this
    rw [hy] at hx
    simp at hx
    subst hx
    exact hp
set_option maxHeartbeats 1000000 in
theorem lsmall_any (L : List Rl) (p : Option Addr) (c : Nat) (l : List AX) (q : Option Addr) (d : Nat) (w : World) (hR : RowA rlC 3 w p L) (hA : RowA axC 39 w q l) (hX : ∀ x ∈ l, StrP w x.gp x.gs) (hL : L.length ≤ 4611686018427387904) (hl : l.length ≤ 4611686018427387904) :
    Calls Try.prog 11 #[.slice p L.length c, .slice q l.length d] w fun e w' => e = .returned (.bool (smallB L l)) ∧ K0 w w' := by
  refine vc_lsmall p L.length c q l.length d w _ ?_
  refine ⟨fun vs w' => ∃ i : Nat, vs = [.int .i64 (i : Int)] ∧ i ≤ L.length ∧ (∀ j r, j < i → L[j]? = some r → decide (r.pat.size ≤ 100) = true) ∧ w' = w,
    fun vs _ => (match vs with | .int _ x :: _ => L.length - x.toNat | _ => 0), ⟨0, rfl, by omega, (fun j r h => by omega), rfl⟩, ?_⟩
  rintro x w1 ⟨i, hv, hi, hall, rfl⟩
  simp only [List.cons.injEq, Value.int.injEq, true_and, and_true] at hv
  subst hv
  refine bsp_intro (fun hlt => ?_) (fun hge => ?_)
  · have hlt : i < L.length := by simp at hlt; omega
    obtain ⟨r, b, o, hr, hp, hat⟩ := hR.get hlt
    refine nn_eq hp ⟨by omega, r.pat, by rw [Int.toNat_natCast]; simpa using hat.cell (j := 0) rfl, bsp_intro (fun h => ?_) (fun h => ?_)⟩
    · have h : decide (r.pat.size ≤ 100) = false := by simp at h ⊢; omega
      refine ⟨?_, .refl _ _⟩
      unfold smallB
      rw [all_hit (f := fun r : Rl => decide (r.pat.size ≤ 100)) (List.mem_of_getElem? hr) h]; rfl
    · have h : decide (r.pat.size ≤ 100) = true := by simp at h ⊢; omega
      exact ⟨⟨i + 1, by rw [inc64 (by omega)], hlt, grow_all hall hr h, rfl⟩, by rw [inc64 (by omega)]; simp only [Int.toNat_natCast]; omega⟩
  have hi : i = L.length := by simp at hge; omega
  subst hi
  have hpat := all_full hall
  refine ⟨fun vs w' => ∃ i : Nat, vs = [.int .i64 (i : Int)] ∧ i ≤ l.length ∧ (∀ j r, j < i → l[j]? = some r → smA r = true) ∧ w' = w1,
    fun vs _ => (match vs with | .int _ x :: _ => l.length - x.toNat | _ => 0), ⟨0, rfl, by omega, (fun j r h => by omega), rfl⟩, ?_⟩
  rintro x w2 ⟨i, hv, hi, hall2, rfl⟩
  simp only [List.cons.injEq, Value.int.injEq, true_and, and_true] at hv
  subst hv
  refine bsp_intro (fun hlt => ?_) (fun hge => ?_)
  · have hlt : i < l.length := by simp at hlt; omega
    obtain ⟨y, b, o, hy, hq, hat⟩ := hA.get hlt
    have hyl := List.mem_of_getElem? hy
    have no : smA y = false → smallB L l = false := fun h => by
      unfold smallB
      rw [all_hit hyl h, Bool.and_false]; rfl
    have cg : w2.cell? ⟨b, o + i * 39 + 34, none⟩ = some (.slice y.gp y.gs.length y.gc) := hat.cell (j := 34) rfl
    have ch : w2.cell? ⟨b, o + i * 39 + 37, none⟩ = some (.slice y.hp y.hs.length y.hc) := hat.cell (j := 37) rfl
    refine nn_eq hq ⟨by omega, y.gp, y.gs.length, y.gc, by rw [Int.toNat_natCast]; exact cg, nn_eq hq ⟨gimp_intro fun _ => by omega, y.hp, y.hs.length, y.hc, gimp_intro fun _ => by rw [Int.toNat_natCast]; exact ch, bsp_intro (fun h => ?_) (fun h => ?_)⟩⟩
    · refine ⟨?_, .refl _ _⟩
      rw [no]
      unfold smA
      simp at h
      rcases h with h | h
      · rw [show decide (y.gs.length ≤ 5) = false by simp; omega]; rfl
      · rw [show decide (y.hs.length ≤ 5) = false by simp; omega, Bool.and_false]; rfl
    · have hg5 : y.gs.length ≤ 5 ∧ y.hs.length ≤ 5 := by simp at h; omega
      refine ⟨fun vs w' => ∃ a : Nat, vs = [.int .i64 (a : Int)] ∧ a ≤ y.gs.length ∧ (∀ j z, j < a → y.gs[j]? = some z → decide (z.size ≤ 60) = true) ∧ w' = w2,
        fun vs _ => (match vs with | .int _ x :: _ => y.gs.length - x.toNat | _ => 0), ⟨0, rfl, by omega, (fun j r h => by omega), rfl⟩, ?_⟩
      rintro x w3 ⟨a, hv, ha, hall3, rfl⟩
      simp only [List.cons.injEq, Value.int.injEq, true_and, and_true] at hv
      subst hv
      refine nn_eq hq ⟨by omega, y.gp, y.gs.length, y.gc, by rw [Int.toNat_natCast]; exact cg, bsp_intro (fun hlt2 => ?_) (fun hge2 => ?_)⟩
      · have hlt2 : a < y.gs.length := by simp at hlt2; omega
        obtain ⟨z, b2, o2, hzi, hgp, hc⟩ := (hX y hyl).get hlt2
        refine nn_eq hq ⟨by omega, y.gp, y.gs.length, y.gc, by rw [Int.toNat_natCast]; exact cg, nn_eq hgp ⟨by omega, z, by rw [Int.toNat_natCast]; exact hc, bsp_intro (fun h => ?_) (fun h => ?_)⟩⟩
        · refine ⟨?_, .refl _ _⟩
          rw [no]
          unfold smA
          rw [all_hit (f := fun z : ByteArray => decide (z.size ≤ 60)) (List.mem_of_getElem? hzi) (by simp at h ⊢; omega), Bool.and_false]
        · have h : decide (z.size ≤ 60) = true := by simp at h ⊢; omega
          exact ⟨⟨a + 1, by rw [inc64 (by omega)], hlt2, grow_all hall3 hzi h, rfl⟩, by rw [inc64 (by omega)]; simp only [Int.toNat_natCast]; omega⟩
      · have ha : a = y.gs.length := by simp at hge2; omega
        subst ha
        have hsm : smA y = true := by
          unfold smA
          rw [all_full hall3]
          simp [hg5.1, hg5.2]
        exact ⟨⟨i + 1, by rw [inc64 (by omega)], hlt, grow_all hall2 hy hsm, rfl⟩, by rw [inc64 (by omega)]; simp only [Int.toNat_natCast]; omega⟩
  · have hi : i = l.length := by simp at hge; omega
    subst hi
    refine ⟨?_, .refl _ _⟩
    unfold smallB
    rw [hpat, all_full hall2, Bool.true_and, Bool.true_and]
    congr 3
    · simp; omega
    · simp; omega
theorem rlC_length (r : Rl) : (rlC r).length = 3 := rfl
theorem take_len {α : Type} {l : List α} {i : Nat} (h : i ≤ l.length) : (l.take i).length = i := by rw [List.length_take]; omega
theorem lrules_any (L : List Rl) (p : Option Addr) (c : Nat) (w : World) (hR : RowA rlC 3 w p L) (hl : L.length ≤ 1000) :
    Calls Try.prog 12 #[.slice p L.length c] w fun e w' => ∃ (p' : Option Addr) (c' : Nat), e = .returned (.slice p' L.length c') ∧ w'.ownsRow w.heap.size 68 3 (.slice p' L.length c') L.length (L.flatMap rlC) ∧ K0 w w' := by
  refine vc_lrules p L.length c w _ ?_
  refine ⟨fun vs w' => ∃ (i : Nat) (p' : Option Addr) (c' : Nat), vs = [.int .i64 (i : Int), .slice p' i c'] ∧ i ≤ L.length ∧ w'.ownsRow w.heap.size 68 3 (.slice p' i c') i ((L.take i).flatMap rlC) ∧ K0 w w',
    fun vs _ => (match vs with | .int _ x :: _ => L.length - x.toNat | _ => 0), ⟨0, none, 0, rfl, by omega, World.ownsRow_nil _ _ _ _, .refl _ _⟩, ?_⟩
  rintro x p1 n1 c1 w1 ⟨i, p1', c1', hv, hi, ho, k1⟩
  simp only [List.cons.injEq, Value.int.injEq, Value.slice.injEq, true_and, and_true] at hv
  obtain ⟨rfl, rfl, rfl, rfl⟩ := hv
  refine bsp_intro (fun hlt => ?_) (fun hge => ?_)
  · have hlt : n1 < L.length := by simp at hlt; omega
    intro W2 hW2
    have k2 : K0 w1 W2 := hW2.kk rfl
    obtain ⟨r, b, o, hr, hp, hat⟩ := (hR.k0 (k1.trans k2)).get hlt
    refine ⟨fun wx => K0 W2 wx, .refl _ _, nn_eq hp ⟨by omega, r.pat, fun wx kx => ?_, nn_eq hp ⟨by omega, r.lo, fun wx kx => ?_, nn_eq hp ⟨by omega, r.hi, fun wx kx => ?_, fun n3 w3 hn3 => ?_⟩⟩⟩⟩
    · rw [Int.toNat_natCast]; simpa using (hat.k0 kx).cell (j := 0) rfl
    · rw [Int.toNat_natCast]; exact (hat.k0 kx).cell (j := 1) rfl
    · rw [Int.toNat_natCast]; exact (hat.k0 kx).cell (j := 2) rfl
    have k3 : K0 W2 w3 := hn3.kp _
    refine app1 (owns_kp ho k2 (fun _ _ h => h)) (Nat.le_trans k1.size k2.size) hn3 rfl (by intro u hu; simp at hu; rcases hu with rfl | rfl | rfl <;> rfl) (by omega) (by omega) (fun p'' c'' w4 ho4 hk4 _ => ?_)
    have hoo := owns_kp ho k2 (fun _ _ h => h)
    have kk : K0 w w4 := (k1.trans k2).fresh hk4 (fun j hj e => by have := own_ge hoo e; omega)
    refine ⟨.of_kp hk4 (fun z hz => by cases hz), ⟨n1 + 1, p'', c'', by rw [inc64 (by omega)], hlt, ?_, kk⟩, by rw [inc64 (by omega)]; simp only [Int.toNat_natCast]; omega⟩
    rw [take_snoc hr, List.flatMap_append]
    simpa [rlC] using ho4
  · have hi : n1 = L.length := by simp at hge; omega
    subst hi
    rw [List.take_length] at ho
    exact ⟨p1, c1, rfl, ho, k1⟩
theorem lids_any (l : List (Nat → Int)) (p : Option Addr) (c : Nat) (w : World) (hR : RowA idL 32 w p l) (hl : l.length ≤ 1000) :
    Calls Try.prog 34 #[.slice p l.length c] w fun e w' => ∃ (p' : Option Addr) (c' : Nat), e = .returned (.slice p' l.length c') ∧ w'.ownsRow w.heap.size 38 32 (.slice p' l.length c') l.length (l.flatMap idL) ∧ K0 w w' := by
  refine vc_lids p l.length c w _ ?_
  refine ⟨fun vs w' => ∃ (i : Nat) (p' : Option Addr) (c' : Nat), vs = [.int .i64 (i : Int), .slice p' i c'] ∧ i ≤ l.length ∧ w'.ownsRow w.heap.size 38 32 (.slice p' i c') i ((l.take i).flatMap idL) ∧ K0 w w',
    fun vs _ => (match vs with | .int _ x :: _ => l.length - x.toNat | _ => 0), ⟨0, none, 0, rfl, by omega, World.ownsRow_nil _ _ _ _, .refl _ _⟩, ?_⟩
  rintro x p1 n1 c1 w1 ⟨i, p1', c1', hv, hi, ho, k1⟩
  simp only [List.cons.injEq, Value.int.injEq, Value.slice.injEq, true_and, and_true] at hv
  obtain ⟨rfl, rfl, rfl, rfl⟩ := hv
  refine bsp_intro (fun hlt => ?_) (fun hge => ?_)
  · have hlt : n1 < l.length := by simp at hlt; omega
    obtain ⟨y, b, o, hy, hp, hat⟩ := (hR.k0 k1).get hlt
    refine nn_eq hp ⟨by omega, y, by rw [Int.toNat_natCast]; exact hat, fun n3 W3 hW3 => ?_⟩
    have k3 : K0 w1 W3 := hW3.kk rfl
    have hoo := owns_kp ho k3 (fun _ _ h => h)
    refine ⟨w.heap.size, _, hoo, by omega, by omega, Nat.le_trans k1.size k3.size, fun p'' c'' w4 ho4 hg4 _ => ?_⟩
    have hk4 := kp_grown hg4
    have kk : K0 w w4 := (k1.trans k3).fresh hk4 (fun j hj e => by have := own_ge hoo e; omega)
    refine ⟨.of_kp hk4 (fun z hz => by cases hz), ⟨n1 + 1, p'', c'', by rw [inc64 (by omega)], hlt, ?_, kk⟩, by rw [inc64 (by omega)]; simp only [Int.toNat_natCast]; omega⟩
    rw [take_snoc hy, List.flatMap_append]
    rw [show [y].flatMap idL = arrI .u8 y 32 0 by simp]
    exact ho4
  · have hi : n1 = l.length := by simp at hge; omega
    subst hi
    rw [List.take_length] at ho
    exact ⟨p1, c1, rfl, ho, k1⟩
/-- An article, its Holds elsewhere. -/
def AX.mv (x : AX) (p : Option Addr) (c : Nat) : AX := { x with hp := p, hc := c }
def AX.core (x : AX) : AX := { x with hp := none, hc := 0, gp := none, gc := 0 }
theorem larticle_any (x : AX) (w : World) (hR : RowA idL 32 w x.hp x.hs) (hl : x.hs.length ≤ 1000) :
    Calls Try.prog 16 #[.agg (axC x).toArray] w fun e w' => ∃ (p' : Option Addr) (c' : Nat), e = .returned (.agg (axC (x.mv p' c')).toArray) ∧ w'.ownsRow w.heap.size 38 32 (.slice p' x.hs.length c') x.hs.length (x.hs.flatMap idL) ∧ K0 w w' := by
  refine vc_larticle x.id x.dt x.ar x.gp x.gs.length x.gc x.by_ x.ct x.hp x.hs.length x.hc x.wd w _ ?_
  intro n n1 W hW
  have kW : K0 w W := hW.kk rfl
  have hx := hW.cells 1 rfl
  have hb1 := hW.cells 0 rfl
  have g1 : w.heap.size ≤ n1 := hW.fresh 0 rfl rfl
  have hne : n ≠ n1 := hW.apart 1 0 rfl rfl (by decide)
  have at_ : ∀ {wx : World}, K0 W wx → AtL wx n 0 (axC x) := fun hk => AtL_block (hk.blk hx (fun h => h)) rfl
  refine ⟨fun wx => K0 W wx, .refl _ _, x.id, fun wx kx => (at_ kx).pre, x.dt, fun wx kx => (at_ kx).cell (j := 32) rfl, x.ar, fun wx kx => (at_ kx).cell (j := 33) rfl, x.gp, x.gs.length, x.gc, fun wx kx => (at_ kx).cell (j := 34) rfl, x.by_, fun wx kx => (at_ kx).cell (j := 35) rfl, x.ct, fun wx kx => (at_ kx).cell (j := 36) rfl, x.hp, x.hs.length, x.hc, fun wx kx => (at_ kx).cell (j := 37) rfl, x.wd, fun wx kx => (at_ kx).cell (j := 38) rfl, ?_⟩
  refine ⟨(lids_any x.hs x.hp x.hc W (hR.k0 kW) hl).mono fun e w1 ⟨p', c', he, hrow, k1⟩ => ⟨_, _, _, he, k1, ?_⟩⟩
  have hb1' := k1.blk hb1 (fun h => h)
  refine ⟨WrL_block hb1' (Nat.le_refl 39), fun w2 hp2 => ⟨.of_kp (M := (· = n1)) ((k1.mono fun _ _ h => h.elim).trans hp2.kp) (fun z hz e => by simp at hz; subst hz; exact hne e), _, _, _, _, _, _, _, _, _, _, _, _, AtL_block (hp2.full hb1' rfl) rfl, p', c', rfl, ?_, put_k0 (kW.trans k1) hp2 g1⟩⟩
  refine own_base (owns_kp hrow hp2.kp (fun k hk e => ?_)) kW.size
  have h1 := own_ge hrow hk
  have h2 : n1 < W.heap.size := block_lt hb1
  subst e
  exact absurd h1 (by omega)
/-- Articles whose Groups lay there and whose Holds are new. -/
structure AXO (w0 w : World) (x : AX) : Prop where
  gs : StrP w0 x.gp x.gs
  hs : w.ownsRow w0.heap.size 38 32 (.slice x.hp x.hs.length x.hc) x.hs.length (x.hs.flatMap idL)
theorem AXO.r {w0 w : World} {x : AX} (h : AXO w0 w x) (hk : K0 w0 w) : AXR w x := ⟨h.gs.k0 hk, RowA.own h.hs idL_length (by decide)⟩
theorem AXO.k {w0 w w' : World} {x : AX} (h : AXO w0 w x) (hk : K0 w w') : AXO w0 w' x := ⟨h.gs, owns_kp h.hs hk (fun _ _ h => h)⟩
theorem core_pl (x : AX) : x.core.pl = x.pl := rfl
set_option maxHeartbeats 1000000 in
theorem larticles_any (l : List AX) (p : Option Addr) (c : Nat) (w : World) (hA : RowA axC 39 w p l) (hX : ∀ x ∈ l, AXR w x) (hh : ∀ x ∈ l, x.hs.length ≤ 1000) (hl : l.length ≤ 1000) :
    Calls Try.prog 13 #[.slice p l.length c] w fun e w' => ∃ (l' : List AX) (p' : Option Addr) (c' : Nat), e = .returned (.slice p' l'.length c') ∧ l'.map AX.core = l.map AX.core ∧ w'.ownsRow w.heap.size 42 39 (.slice p' l'.length c') l'.length (l'.flatMap axC) ∧ (∀ x ∈ l', AXO w w' x) ∧ K0 w w' := by
  refine vc_larticles p l.length c w _ ?_
  refine ⟨fun vs w' => ∃ (i : Nat) (l' : List AX) (p' : Option Addr) (c' : Nat), vs = [.int .i64 (i : Int), .slice p' l'.length c'] ∧ l'.length = i ∧ i ≤ l.length ∧ l'.map AX.core = (l.take i).map AX.core ∧ w'.ownsRow w.heap.size 42 39 (.slice p' l'.length c') l'.length (l'.flatMap axC) ∧ (∀ x ∈ l', AXO w w' x) ∧ K0 w w',
    fun vs _ => (match vs with | .int _ x :: _ => l.length - x.toNat | _ => 0), ⟨0, [], none, 0, rfl, rfl, by omega, rfl, World.ownsRow_nil _ _ _ _, (fun x hx => by cases hx), .refl _ _⟩, ?_⟩
  rintro x p1 n1 c1 w1 ⟨i, l', p1', c1', hv, hli, hi, hcore, ho, hO, k1⟩
  simp only [List.cons.injEq, Value.int.injEq, Value.slice.injEq, true_and, and_true] at hv
  obtain ⟨rfl, rfl, rfl, rfl⟩ := hv
  refine bsp_intro (fun hlt => ?_) (fun hge => ?_)
  · have hlt : i < l.length := by simp at hlt; omega
    obtain ⟨y, b, o, hy, hp, hat⟩ := (hA.k0 k1).get hlt
    have hyl := List.mem_of_getElem? hy
    refine nn_eq hp ⟨by omega, y.id, y.dt, y.ar, y.gp, y.gs.length, y.gc, y.by_, y.ct, y.hp, y.hs.length, y.hc, y.wd, by rw [Int.toNat_natCast]; exact hat, ?_⟩
    refine ⟨(larticle_any y w1 ((hX y hyl).hs.k0 k1) (hh y hyl)).mono fun e w2 ⟨p2, c2, he, hown, k2⟩ => ?_⟩
    refine ⟨y.id, y.dt, y.ar, y.gp, y.gs.length, y.gc, y.by_, y.ct, p2, y.hs.length, c2, y.wd, he, .of_k0 k2, fun n4 W4 hW4 => ?_⟩
    have k4 : K0 w2 W4 := hW4.kk rfl
    have hoo := owns_kp (owns_kp ho k2 (fun _ _ h => h)) k4 (fun _ _ h => h)
    have kw4 : K0 w W4 := (k1.trans k2).trans k4
    refine ⟨w.heap.size, _, hoo, by omega, by omega, kw4.size, fun p5 c5 w5 ho5 hg5 _ => ?_⟩
    have k5 := kp_grown hg5
    have kw5 : K0 w w5 := kw4.fresh k5 (fun j hj e => by have := own_ge hoo e; omega)
    have keep : ∀ {x : AX}, AXO w W4 x → AXO w w5 x := fun {x} h => ⟨h.gs, owns_kp h.hs k5 (fun j hj e => by
      obtain ⟨cc, hcc⟩ := own_type h.hs hj
      exact own_not hoo hcc rfl e)⟩
    refine ⟨.of_kp k5 (fun z hz => by cases hz), ⟨i + 1, l' ++ [y.mv p2 c2], p5, c5, by rw [inc64 (by omega)]; simp, by simp [hli], hlt, ?_, ?_, fun x hx => ?_, kw5⟩, by rw [inc64 (by omega)]; simp only [Int.toNat_natCast]; omega⟩
    · rw [List.map_append, hcore, take_snoc hy, List.map_append]; rfl
    · rw [List.flatMap_append, show (l' ++ [y.mv p2 c2]).length = l'.length + 1 by simp]
      rw [show [y.mv p2 c2].flatMap axC = axC (y.mv p2 c2) by simp]
      exact ho5
    · rcases List.mem_append.1 hx with h | h
      · exact keep (((hO x h).k k2).k k4)
      · simp at h
        subst h
        exact keep ⟨(hX y hyl).gs, own_base (owns_kp hown k4 (fun _ _ h => h)) k1.size⟩
  · have hi : i = l.length := by simp at hge; omega
    rw [hi, List.take_length] at hcore
    exact ⟨l', p1, c1, rfl, hcore, ho, hO, k1⟩
theorem idEq4 {l l' : List Int} (hl : l.length = 32) (hb : ∀ x ∈ l, 0 ≤ x ∧ x ≤ 255) (hl' : l'.length = 32) (hb' : ∀ x ∈ l', 0 ≤ x ∧ x ≤ 255) : EqP Try.prog 38 (byA l) (byA l') (decide (l = l')) := idEq hl hb hl' hb'
theorem whyC_cell {w : World} {b o : Nat} {r : (Nat → Int) × Nat} (h : AtL w b o (whyC r)) : AtL w b o (arrI .u8 r.1 32 0) ∧ w.cell? ⟨b, o + 32, none⟩ = some (.int .i64 (r.2 : Int)) := ⟨h.pre, h.cell (j := 32) rfl⟩
/-- Plans that agree are the same. -/
theorem lsame_any (R S : List ((Nat → Int) × Nat)) (p : Option Addr) (c : Nat) (q : Option Addr) (d : Nat) (w : World) (hR : RowA whyC 33 w p R) (hS : RowA whyC 33 w q S) (he : R.map whyS = S.map whyS) (hRb : ∀ r ∈ R, ∀ j, 0 ≤ r.1 j ∧ r.1 j ≤ 255) (hSb : ∀ r ∈ S, ∀ j, 0 ≤ r.1 j ∧ r.1 j ≤ 255) (hl : R.length ≤ 1000) :
    Calls Try.prog 24 #[.slice p R.length c, .slice q S.length d] w fun e w' => e = .returned (.bool true) ∧ K0 w w' := by
  have hlen : R.length = S.length := by have := congrArg List.length he; simpa using this
  refine vc_lsame p R.length c q S.length d w _ ?_
  refine bsp_intro (fun h => by exfalso; simp [hlen] at h) (fun _ => ?_)
  refine count1 R.length (by omega) (fun k wx => K0 w wx) (.refl _ _) ?_
  intro I m i w1 hi k1 next
  refine bsp_intro (fun hlt => ?_) (fun hge => ⟨rfl, k1⟩)
  have hlt : i < R.length := by simp at hlt; omega
  obtain ⟨r, b, o, hr, hp, hat⟩ := (hR.k0 k1).get hlt
  obtain ⟨s, b', o', hs, hq, hat'⟩ := (hS.k0 k1).get (k := i) (by omega)
  have hrs : whyS r = whyS s := by
    have h1 : (R.map whyS)[i]? = some (whyS r) := by rw [List.getElem?_map, hr]; rfl
    rw [he, List.getElem?_map, hs] at h1
    simpa using h1.symm
  have hid : idI r.1 = idI s.1 := congrArg (·.1) hrs
  have hk : r.2 = s.2 := congrArg (·.2) hrs
  have hE := idEq4 (idI_len r.1) (idI_bd (hRb r (List.mem_of_getElem? hr))) (idI_len s.1) (idI_bd (hSb s (List.mem_of_getElem? hs)))
  rw [show decide (idI r.1 = idI s.1) = true by simp [hid]] at hE
  refine nn_eq hp ⟨by omega, r.1, fun W hW => by rw [Int.toNat_natCast]; exact (hat.k0 (hW.kk rfl)).pre, nn_eq hq ⟨by omega, s.1, fun W hW => by rw [Int.toNat_natCast]; exact (hat'.k0 (hW.kk rfl)).pre, true, hE, nn_eq hp ⟨gimp_intro fun _ => by omega, (r.2 : Int), gimp_intro fun _ W hW => by rw [Int.toNat_natCast]; exact (hat.k0 (hW.kk rfl)).cell (j := 32) rfl, nn_eq hq ⟨gimp_intro fun _ => by omega, (s.2 : Int), gimp_intro fun _ W hW => by rw [Int.toNat_natCast]; exact (hat'.k0 (hW.kk rfl)).cell (j := 32) rfl, ?_⟩⟩⟩⟩
  rw [hk]
  refine bsp_intro (fun h => by simp at h) (fun _ W hW => next hlt W (k1.trans (hW.kk rfl)))
theorem lhere_any (l : List AX) (p : Option Addr) (c : Nat) (f : Nat → Int) (w : World) (hR : RowA axC 39 w p l) (hl : l.length ≤ 1048576) (hb : ∀ x ∈ l, ∀ j, 0 ≤ x.id j ∧ x.id j ≤ 255) (hf : ∀ j, 0 ≤ f j ∧ f j ≤ 255) :
    Calls Try.prog 26 #[.slice p l.length c, .agg (arrI .u8 f 32 0).toArray] w fun e w' => e = .returned (.bool (hereB (l.map AX.pl) (idI f))) ∧ K0 w w' := by
  refine vc_lhere p l.length c f w _ ?_
  intro n1 W hW
  have kW : K0 w W := hW.kk rfl
  refine ⟨fun vs w' => ∃ i : Nat, vs = [.int .i64 (i : Int)] ∧ i ≤ l.length ∧ (∀ j z, j < i → l[j]? = some z → (fun y : AX => decide (idI y.id = idI f)) z = false) ∧ K0 w w',
    fun vs _ => (match vs with | .int _ x :: _ => l.length - x.toNat | _ => 0), ⟨0, rfl, by omega, (fun j z h => by omega), kW⟩, ?_⟩
  rintro x w1 ⟨i, hv, hi, hno, k1⟩ hL1
  simp only [List.cons.injEq, Value.int.injEq, true_and, and_true] at hv
  subst hv
  rw [← fiR_here]
  refine bsp_intro (fun hlt => ?_) (fun hge => ?_)
  · have hlt : i < l.length := by simp at hlt; omega
    obtain ⟨y, b, o, hy, rfl, hat⟩ := (hR.k0 k1).get hlt
    show (0 ≤ (i : Int) ∧ (i : Int) < (l.length : Int)) ∧ _
    rw [Int.toNat_natCast]
    refine ⟨by omega, y.id, fun W2 hW2 => (hat.k0 (hW2.kk rfl)).pre, decide (idI y.id = idI f), idEq4 (idI_len _) (idI_bd (hb y (List.mem_of_getElem? hy))) (idI_len _) (idI_bd hf), bsp_intro (fun hg W2 hW2 => ?_) (fun hg W2 hW2 => ?_)⟩
    · exact ⟨by unfold fiR; rw [fidx_hit hno hy hg]; simp, k1.trans (hW2.kk rfl)⟩
    · exact ⟨⟨i + 1, by rw [inc64 (by omega)], hlt, grow_all hno hy hg, k1.trans (hW2.kk rfl)⟩, by rw [inc64 (by omega)]; simp only [Int.toNat_natCast]; omega⟩
  · have hi : i = l.length := by simp at hge; omega
    subst hi
    exact ⟨by unfold fiR; rw [fidx_miss hno]; rfl, k1⟩
theorem lodd_any (f : Nat → Int) (w : World) : Calls Try.prog 17 #[.agg (arrI .u8 f 32 0).toArray] w fun e w' => e = .returned (.bool ((f 0).tmod 2 == 1)) ∧ K0 w w' := vc_lodd f w _ fun _ _ hW => ⟨rfl, hW.kk rfl⟩

end Go.Proofs.Ytmjanmffnblcoaa

/- The formulas of functions by the symbolic evaluator, and that each gives the call's contract. Written by a program (gen.py). No condition. -/
namespace Go.Proofs.Ytmjanmffnblcoaa
set_option maxRecDepth 100000
set_option linter.unusedVariables false

def VC_lknown (w : World) (R : Ending → World → Prop) : Prop :=
 ∀ (n n_1 : Nat) (W : World),
 Loc w.heap.size
 [Blk.mk n_1 9
 [Value.string (ByteArray.mk #[97, 108, 116, 46, 116, 101, 115, 116]),
 Value.string (ByteArray.mk #[114, 101, 99, 46, 98, 111, 97, 116, 115])]
 2,
 Blk.mk n 68
 [Value.string (ByteArray.mk #[42]), Value.int IntKind.i64 0, Value.int IntKind.i64 10,
 Value.string (ByteArray.mk #[114, 101, 99, 46, 42]), Value.int IntKind.i64 5, Value.int IntKind.i64 30]
 2]
 w W →
 ∀ (n_2 n_3 : Nat) (W_1 : World),
 Loc w.heap.size
 [Blk.mk n_3 42
 [Value.int IntKind.u8 1, Value.int IntKind.u8 0, Value.int IntKind.u8 0, Value.int IntKind.u8 0,
 Value.int IntKind.u8 0, Value.int IntKind.u8 0, Value.int IntKind.u8 0, Value.int IntKind.u8 0,
 Value.int IntKind.u8 0, Value.int IntKind.u8 0, Value.int IntKind.u8 0, Value.int IntKind.u8 0,
 Value.int IntKind.u8 0, Value.int IntKind.u8 0, Value.int IntKind.u8 0, Value.int IntKind.u8 0,
 Value.int IntKind.u8 0, Value.int IntKind.u8 0, Value.int IntKind.u8 0, Value.int IntKind.u8 0,
 Value.int IntKind.u8 0, Value.int IntKind.u8 0, Value.int IntKind.u8 0, Value.int IntKind.u8 0,
 Value.int IntKind.u8 0, Value.int IntKind.u8 0, Value.int IntKind.u8 0, Value.int IntKind.u8 0,
 Value.int IntKind.u8 0, Value.int IntKind.u8 0, Value.int IntKind.u8 0, Value.int IntKind.u8 0,
 Value.int IntKind.i64 0, Value.int IntKind.i64 0, Value.slice (some (Addr.mk n_1 0 none)) 2 2,
 Value.int IntKind.i64 7, Value.int IntKind.i64 0, Value.slice none 0 0, Value.bool false]
 2,
 Blk.mk n_2 42
 [Value.int IntKind.u8 1, Value.int IntKind.u8 0, Value.int IntKind.u8 0, Value.int IntKind.u8 0,
 Value.int IntKind.u8 0, Value.int IntKind.u8 0, Value.int IntKind.u8 0, Value.int IntKind.u8 0,
 Value.int IntKind.u8 0, Value.int IntKind.u8 0, Value.int IntKind.u8 0, Value.int IntKind.u8 0,
 Value.int IntKind.u8 0, Value.int IntKind.u8 0, Value.int IntKind.u8 0, Value.int IntKind.u8 0,
 Value.int IntKind.u8 0, Value.int IntKind.u8 0, Value.int IntKind.u8 0, Value.int IntKind.u8 0,
 Value.int IntKind.u8 0, Value.int IntKind.u8 0, Value.int IntKind.u8 0, Value.int IntKind.u8 0,
 Value.int IntKind.u8 0, Value.int IntKind.u8 0, Value.int IntKind.u8 0, Value.int IntKind.u8 0,
 Value.int IntKind.u8 0, Value.int IntKind.u8 0, Value.int IntKind.u8 0, Value.int IntKind.u8 0,
 Value.int IntKind.i64 0, Value.int IntKind.i64 0, Value.slice (some (Addr.mk n_1 0 none)) 2 2,
 Value.int IntKind.i64 7, Value.int IntKind.i64 0, Value.slice none 0 0, Value.bool false]
 (wrM 2),
 Blk.mk n 68
 [Value.string (ByteArray.mk #[42]), Value.int IntKind.i64 0, Value.int IntKind.i64 10,
 Value.string (ByteArray.mk #[114, 101, 99, 46, 42]), Value.int IntKind.i64 5, Value.int IntKind.i64 30]
 0]
 W W_1 →
 CallsS Try.prog 14
 #[Value.slice (some (Addr.mk n 0 none)) 2 2, Value.slice (some (Addr.mk n_3 0 none)) 1 1,
 Value.int IntKind.i64 43200, Value.int IntKind.i64 100]
 W_1 fun (e : Ending) (w' : World) =>
 ∃ (p : Option Addr),
 ∃ (n_4 : Nat),
 ∃ (c : Nat),
 ∃ (x : Int),
 e = Ending.returned (Value.tuple #[Value.slice p n_4 c, Value.int IntKind.i64 x]) ∧
 KeptL [n_2, n] W_1 w' ∧
 CallsS Try.prog 21
 #[Value.slice (some (Addr.mk n 0 none)) 2 2,
 Value.agg
 #[Value.int IntKind.u8 1, Value.int IntKind.u8 0, Value.int IntKind.u8 0, Value.int IntKind.u8 0,
 Value.int IntKind.u8 0, Value.int IntKind.u8 0, Value.int IntKind.u8 0, Value.int IntKind.u8 0,
 Value.int IntKind.u8 0, Value.int IntKind.u8 0, Value.int IntKind.u8 0, Value.int IntKind.u8 0,
 Value.int IntKind.u8 0, Value.int IntKind.u8 0, Value.int IntKind.u8 0, Value.int IntKind.u8 0,
 Value.int IntKind.u8 0, Value.int IntKind.u8 0, Value.int IntKind.u8 0, Value.int IntKind.u8 0,
 Value.int IntKind.u8 0, Value.int IntKind.u8 0, Value.int IntKind.u8 0, Value.int IntKind.u8 0,
 Value.int IntKind.u8 0, Value.int IntKind.u8 0, Value.int IntKind.u8 0, Value.int IntKind.u8 0,
 Value.int IntKind.u8 0, Value.int IntKind.u8 0, Value.int IntKind.u8 0, Value.int IntKind.u8 0,
 Value.int IntKind.i64 0, Value.int IntKind.i64 0, Value.slice (some (Addr.mk n_1 0 none)) 2 2,
 Value.int IntKind.i64 7, Value.int IntKind.i64 0, Value.slice none 0 0, Value.bool false]]
 w' fun (e : Ending) (w'_1 : World) =>
 ∃ (x_1 : Int),
 e = Ending.returned (Value.int IntKind.i64 x_1) ∧
 KeptL [n_2, n] w' w'_1 ∧
 bsp (x_1 == 5)
 (CallsS Try.prog 22
 #[Value.slice (some (Addr.mk n 0 none)) 2 2,
 Value.agg
 #[Value.int IntKind.u8 1, Value.int IntKind.u8 0, Value.int IntKind.u8 0, Value.int IntKind.u8 0,
 Value.int IntKind.u8 0, Value.int IntKind.u8 0, Value.int IntKind.u8 0, Value.int IntKind.u8 0,
 Value.int IntKind.u8 0, Value.int IntKind.u8 0, Value.int IntKind.u8 0, Value.int IntKind.u8 0,
 Value.int IntKind.u8 0, Value.int IntKind.u8 0, Value.int IntKind.u8 0, Value.int IntKind.u8 0,
 Value.int IntKind.u8 0, Value.int IntKind.u8 0, Value.int IntKind.u8 0, Value.int IntKind.u8 0,
 Value.int IntKind.u8 0, Value.int IntKind.u8 0, Value.int IntKind.u8 0, Value.int IntKind.u8 0,
 Value.int IntKind.u8 0, Value.int IntKind.u8 0, Value.int IntKind.u8 0, Value.int IntKind.u8 0,
 Value.int IntKind.u8 0, Value.int IntKind.u8 0, Value.int IntKind.u8 0, Value.int IntKind.u8 0,
 Value.int IntKind.i64 0, Value.int IntKind.i64 0, Value.slice (some (Addr.mk n_1 0 none)) 2 2,
 Value.int IntKind.i64 7, Value.int IntKind.i64 0, Value.slice none 0 0, Value.bool false]]
 w'_1 fun (e : Ending) (w' : World) =>
 ∃ (x_2 : Int),
 e = Ending.returned (Value.int IntKind.i64 x_2) ∧
 KeptL [n_2, n] w'_1 w' ∧
 nn (true && x_2 == 30 && x == 0 && (↑n_4 : Int) == 1) p fun (b o : Nat) =>
 gimp (true && x_2 == 30 && x == 0 && (↑n_4 : Int) == 1) ((0 : Int) ≤ 0 ∧ 0 < (↑n_4 : Int)) ∧
 ∃ (f : Nat → Int),
 ∃ (x_3 : Int),
 gimp (true && x_2 == 30 && x == 0 && (↑n_4 : Int) == 1)
 (AtL w' b o
 (arrI IntKind.u8 f 32 0 ++ [Value.int IntKind.i64 x_3])) ∧
 ∃ (r : Bool),
 gimp (true && x_2 == 30 && x == 0 && (↑n_4 : Int) == 1)
 (EqP Try.prog 44
 (Value.agg
 (arrI IntKind.u8 f 32 0 ++ [Value.int IntKind.i64 x_3]).toArray)
 (Value.agg
 #[Value.int IntKind.u8 1, Value.int IntKind.u8 0, Value.int IntKind.u8 0,
 Value.int IntKind.u8 0, Value.int IntKind.u8 0, Value.int IntKind.u8 0,
 Value.int IntKind.u8 0, Value.int IntKind.u8 0, Value.int IntKind.u8 0,
 Value.int IntKind.u8 0, Value.int IntKind.u8 0, Value.int IntKind.u8 0,
 Value.int IntKind.u8 0, Value.int IntKind.u8 0, Value.int IntKind.u8 0,
 Value.int IntKind.u8 0, Value.int IntKind.u8 0, Value.int IntKind.u8 0,
 Value.int IntKind.u8 0, Value.int IntKind.u8 0, Value.int IntKind.u8 0,
 Value.int IntKind.u8 0, Value.int IntKind.u8 0, Value.int IntKind.u8 0,
 Value.int IntKind.u8 0, Value.int IntKind.u8 0, Value.int IntKind.u8 0,
 Value.int IntKind.u8 0, Value.int IntKind.u8 0, Value.int IntKind.u8 0,
 Value.int IntKind.u8 0, Value.int IntKind.u8 0, Value.int IntKind.i64 2])
 r) ∧
 R (Ending.returned (Value.bool (true && x_2 == 30 && x == 0 && (↑n_4 : Int) == 1 && r))) w')
 (KeptL [n_2, n] w'_1 w'_1 ∧
 nn (false && x == 0 && (↑n_4 : Int) == 1) p fun (b o : Nat) =>
 True ∧
 ∃ (f : Nat → Int),
 ∃ (x_2 : Int),
 True ∧
 ∃ (r : Bool),
 True ∧ R (Ending.returned (Value.bool (false && x == 0 && (↑n_4 : Int) == 1 && r))) w'_1)
theorem vc_lknown (w : World) (R : Ending → World → Prop) (h : VC_lknown w R) : Calls Try.prog 10 ([] : List Value).toArray w R := by
  have e : execR2 { P := Try.prog, loops := [], pur := pur2, tails := [], joins := [], boxes := [] } Try.f10.results.toList R (Try.f10.body.getD .skip) (initF [] (Try.f10.ntmps - ([] : List Value).length)) w = VC_lknown w R := by kernel_rfl
  have hb : Try.f10.body = some (Try.f10.body.getD .skip) := by kernel_rfl
  exact calls_of_exec2' (P := Try.prog) (fn := Try.f10) (c := Try.f10.body.getD .skip) (args := []) (w := w) (R := R) pur2_ok Try.func10 hb e h

def VC_lheld (id : Nat → Int) (dt : Int) (ar : Int) (gp : Option Addr) (gn : Nat) (gc : Nat) (by_ : Int) (ct : Int) (hp : Option Addr) (hn : Nat) (hc : Nat) (wd : Bool) (w : World) (R : Ending → World → Prop) : Prop :=
 ∀ (n : Nat) (W : World),
 Loc w.heap.size
 [Blk.mk n 48
 (arrI IntKind.u8 id 32 0 ++ [Value.int IntKind.i64 dt, Value.int IntKind.i64 ar,
 Value.slice gp gn gc, Value.int IntKind.i64 by_, Value.int IntKind.i64 ct, Value.slice hp hn hc, Value.bool wd])
 2]
 w W →
 CallsS Try.prog 10 #[] W fun (e : Ending) (w' : World) =>
 ∃ (x : Bool),
 e = Ending.returned (Value.bool x) ∧
 KeptL [n] W w' ∧
 bsp (!!x)
 (∀ (n_1 : Nat) (W : World),
 Loc w.heap.size
 [Blk.mk n_1 48
 (arrI IntKind.u8 id 32 0 ++ [Value.int IntKind.i64 dt,
 Value.int IntKind.i64 ar, Value.slice gp gn gc, Value.int IntKind.i64 by_, Value.int IntKind.i64 ct,
 Value.slice hp hn hc, Value.bool wd])
 2,
 Blk.mk n 48
 (arrI IntKind.u8 id 32 0 ++ [Value.int IntKind.i64 dt,
 Value.int IntKind.i64 ar, Value.slice gp gn gc, Value.int IntKind.i64 by_, Value.int IntKind.i64 ct,
 Value.slice hp hn hc, Value.bool wd])
 0]
 w' W →
 CallsS Try.prog 11 #[Value.slice none 0 0, Value.slice (some (Addr.mk n_1 0 none)) 1 1] W
 fun (e : Ending) (w' : World) =>
 ∃ (x : Bool),
 e = Ending.returned (Value.bool x) ∧
 KeptL [n] W w' ∧
 bsp (false || !x)
 (CallsS Try.prog 10 #[] w' fun (e : Ending) (w'_1 : World) =>
 ∃ (x : Bool),
 e = Ending.returned (Value.bool x) ∧ KeptL [n] w' w'_1 ∧ R (Ending.returned (Value.bool x)) w'_1)
 (∃ (I : List Value → World → Prop),
 ∃ (m : List Value → World → Nat),
 I [Value.int IntKind.i64 0, Value.bool false] w' ∧
 ∀ (x : Int) (x_1 : Bool) (w' : World),
 I [Value.int IntKind.i64 x, Value.bool x_1] w' →
 Loc w.heap.size
 [Blk.mk n 48
 (arrI IntKind.u8 id 32 0 ++ [Value.int IntKind.i64 dt,
 Value.int IntKind.i64 ar, Value.slice gp gn gc, Value.int IntKind.i64 by_,
 Value.int IntKind.i64 ct, Value.slice hp hn hc, Value.bool wd])
 0]
 w' w' →
 bsp (decide (x < (↑hn : Int)))
 (∃ (p : Option Addr),
 ∃ (n_2 : Nat),
 ∃ (c : Nat),
 gimp (!x_1) (w'.cell? (Addr.mk n (0 + 37) none) = some (Value.slice p n_2 c)) ∧
 nn (!x_1) p fun (b o : Nat) =>
 gimp (!x_1) (0 ≤ x ∧ x < (↑n_2 : Int)) ∧
 gimp (!x_1) ((0 : Int) ≤ 0 ∧ 0 < (↑32 : Int)) ∧
 ∃ (x_2 : Int),
 gimp (!x_1)
 (w'.cell? (Addr.mk b (o + x.toNat * 32) none) = some (Value.int IntKind.u8 x_2)) ∧
 I [Value.int IntKind.i64 (IntKind.i64.wrap (x + 1)), Value.bool (x_1 || x_2.tmod 2 == 1)]
 w' ∧
 m [Value.int IntKind.i64 (IntKind.i64.wrap (x + 1)), Value.bool (x_1 || x_2.tmod 2 == 1)]
 w' <
 m [Value.int IntKind.i64 x, Value.bool x_1] w')
 (CallsS Try.prog 16
 #[Value.agg
 (arrI IntKind.u8 id 32 0 ++ [Value.int IntKind.i64 dt,
 Value.int IntKind.i64 ar, Value.slice gp gn gc, Value.int IntKind.i64 by_,
 Value.int IntKind.i64 ct, Value.slice hp hn hc, Value.bool wd]).toArray]
 w' fun (e : Ending) (w'_1 : World) =>
 ∃ (f : Nat → Int),
 ∃ (x : Int),
 ∃ (x_2 : Int),
 ∃ (p : Option Addr),
 ∃ (n_2 : Nat),
 ∃ (c : Nat),
 ∃ (x_3 : Int),
 ∃ (x_4 : Int),
 ∃ (p_1 : Option Addr),
 ∃ (n_3 : Nat),
 ∃ (c_1 : Nat),
 ∃ (x_5 : Bool),
 e =
 Ending.returned
 (Value.agg
 (arrI IntKind.u8 f 32 0 ++ [Value.int IntKind.i64 x, Value.int IntKind.i64 x_2, Value.slice p n_2 c,
 Value.int IntKind.i64 x_3, Value.int IntKind.i64 x_4, Value.slice p_1 n_3 c_1,
 Value.bool x_5]).toArray) ∧
 KeptL [n] w' w'_1 ∧
 CallsS Try.prog 15
 #[Value.agg
 (arrI IntKind.u8 f 32 0 ++ [Value.int IntKind.i64 x, Value.int IntKind.i64 x_2, Value.slice p n_2 c,
 Value.int IntKind.i64 x_3, Value.int IntKind.i64 x_4, Value.slice p_1 n_3 c_1,
 Value.bool x_5]).toArray,
 Value.func (Fn.func 17) #[] #[]]
 w'_1 fun (e : Ending) (w' : World) =>
 ∃ (x : Bool),
 e = Ending.returned (Value.bool x) ∧
 KeptL [n] w'_1 w' ∧
 bsp (x == x_1)
 (CallsS Try.prog 16
 #[Value.agg
 (arrI IntKind.u8 id 32 0 ++ [Value.int IntKind.i64 dt, Value.int IntKind.i64 ar, Value.slice gp gn gc,
 Value.int IntKind.i64 by_, Value.int IntKind.i64 ct, Value.slice hp hn hc,
 Value.bool wd]).toArray]
 w' fun (e : Ending) (w'_2 : World) =>
 ∃ (f : Nat → Int),
 ∃ (x : Int),
 ∃ (x_6 : Int),
 ∃ (p : Option Addr),
 ∃ (n_4 : Nat),
 ∃ (c : Nat),
 ∃ (x_7 : Int),
 ∃ (x_8 : Int),
 ∃ (p_2 : Option Addr),
 ∃ (n_5 : Nat),
 ∃ (c_2 : Nat),
 ∃ (x_9 : Bool),
 e =
 Ending.returned
 (Value.agg
 (arrI IntKind.u8 f 32 0 ++ [Value.int IntKind.i64 x, Value.int IntKind.i64 x_6,
 Value.slice p n_4 c, Value.int IntKind.i64 x_7,
 Value.int IntKind.i64 x_8, Value.slice p_2 n_5 c_2,
 Value.bool x_9]).toArray) ∧
 KeptL [n] w' w'_2 ∧
 CallsS Try.prog 15
 #[Value.agg
 (arrI IntKind.u8 f 32 0 ++ [Value.int IntKind.i64 x, Value.int IntKind.i64 x_6,
 Value.slice p n_4 c, Value.int IntKind.i64 x_7,
 Value.int IntKind.i64 x_8, Value.slice p_2 n_5 c_2,
 Value.bool x_9]).toArray,
 Value.nilFunc]
 w'_2 fun (e : Ending) (w' : World) =>
 ∃ (x : Bool),
 e = Ending.returned (Value.bool x) ∧
 KeptL [n] w'_2 w' ∧
 R (Ending.returned (Value.bool (true && !x))) w')
 (KeptL [n] w' w' ∧
 KeptL [n] w' w' ∧ R (Ending.returned (Value.bool false)) w'))))
 (KeptL [n] w' w' ∧
 CallsS Try.prog 10 #[] w' fun (e : Ending) (w'_1 : World) =>
 ∃ (x : Bool), e = Ending.returned (Value.bool x) ∧ KeptL [n] w' w'_1 ∧ R (Ending.returned (Value.bool x)) w'_1)
theorem vc_lheld (id : Nat → Int) (dt : Int) (ar : Int) (gp : Option Addr) (gn : Nat) (gc : Nat) (by_ : Int) (ct : Int) (hp : Option Addr) (hn : Nat) (hc : Nat) (wd : Bool) (w : World) (R : Ending → World → Prop) (h : VC_lheld id dt ar gp gn gc by_ ct hp hn hc wd w R) : Calls Try.prog 4 ([Value.agg
    (arrI IntKind.u8 id 32 0 ++
        [Value.int IntKind.i64 dt, Value.int IntKind.i64 ar, Value.slice gp gn gc, Value.int IntKind.i64 by_,
          Value.int IntKind.i64 ct, Value.slice hp hn hc, Value.bool wd]).toArray] : List Value).toArray w R := by
  have e : execR2 { P := Try.prog, loops := [(5, [(4, Ck.int IntKind.i64), (3, Ck.bool)])], pur := pur2, tails := [], joins := [], boxes := [] } Try.f4.results.toList R (Try.f4.body.getD .skip) (initF [Value.agg
    (arrI IntKind.u8 id 32 0 ++
        [Value.int IntKind.i64 dt, Value.int IntKind.i64 ar, Value.slice gp gn gc, Value.int IntKind.i64 by_,
          Value.int IntKind.i64 ct, Value.slice hp hn hc,
          Value.bool
            wd]).toArray] (Try.f4.ntmps - ([Value.agg
    (arrI IntKind.u8 id 32 0 ++
        [Value.int IntKind.i64 dt, Value.int IntKind.i64 ar, Value.slice gp gn gc, Value.int IntKind.i64 by_,
          Value.int IntKind.i64 ct, Value.slice hp hn hc,
          Value.bool
            wd]).toArray] : List Value).length)) w = VC_lheld id dt ar gp gn gc by_ ct hp hn hc wd w R := by kernel_rfl
  have hb : Try.f4.body = some (Try.f4.body.getD .skip) := by kernel_rfl
  exact calls_of_exec2' (P := Try.prog) (fn := Try.f4) (c := Try.f4.body.getD .skip) (args := [Value.agg
    (arrI IntKind.u8 id 32 0 ++
        [Value.int IntKind.i64 dt, Value.int IntKind.i64 ar, Value.slice gp gn gc, Value.int IntKind.i64 by_,
          Value.int IntKind.i64 ct, Value.slice hp hn hc,
          Value.bool wd]).toArray]) (w := w) (R := R) pur2_ok Try.func4 hb e h

def VC_lexrules (p : Option Addr) (n : Nat) (c : Nat) (id : Nat → Int) (dt : Int) (ar : Int) (gp : Option Addr) (gn : Nat) (gc : Nat) (by_ : Int) (ct : Int) (hp : Option Addr) (hn : Nat) (hc : Nat) (wd : Bool) (w : World) (R : Ending → World → Prop) : Prop :=
 ∀ (n_1 : Nat) (W : World),
 Loc w.heap.size
 [Blk.mk n_1 48
 (arrI IntKind.u8 id 32 0 ++ [Value.int IntKind.i64 dt, Value.int IntKind.i64 ar,
 Value.slice gp gn gc, Value.int IntKind.i64 by_, Value.int IntKind.i64 ct, Value.slice hp hn hc, Value.bool wd])
 2]
 w W →
 CallsS Try.prog 10 #[] W fun (e : Ending) (w' : World) =>
 ∃ (x : Bool),
 e = Ending.returned (Value.bool x) ∧
 KeptL [n_1] W w' ∧
 bsp (!!x)
 (∀ (n_2 : Nat) (W : World),
 Loc w.heap.size
 [Blk.mk n_2 48
 (arrI IntKind.u8 id 32 0 ++ [Value.int IntKind.i64 dt,
 Value.int IntKind.i64 ar, Value.slice gp gn gc, Value.int IntKind.i64 by_, Value.int IntKind.i64 ct,
 Value.slice hp hn hc, Value.bool wd])
 2,
 Blk.mk n_1 48
 (arrI IntKind.u8 id 32 0 ++ [Value.int IntKind.i64 dt,
 Value.int IntKind.i64 ar, Value.slice gp gn gc, Value.int IntKind.i64 by_, Value.int IntKind.i64 ct,
 Value.slice hp hn hc, Value.bool wd])
 0]
 w' W →
 CallsS Try.prog 11 #[Value.slice p n c, Value.slice (some (Addr.mk n_2 0 none)) 1 1] W
 fun (e : Ending) (w' : World) =>
 ∃ (x : Bool),
 e = Ending.returned (Value.bool x) ∧
 KeptL [n_1] W w' ∧
 bsp (false || !x)
 (CallsS Try.prog 10 #[] w' fun (e : Ending) (w'_1 : World) =>
 ∃ (x : Bool),
 e = Ending.returned (Value.bool x) ∧ KeptL [n_1] w' w'_1 ∧ R (Ending.returned (Value.bool x)) w'_1)
 (CallsS Try.prog 12 #[Value.slice p n c] w' fun (e : Ending) (w'_1 : World) =>
 ∃ (p_1 : Option Addr),
 ∃ (n_3 : Nat),
 ∃ (c_1 : Nat),
 e = Ending.returned (Value.slice p_1 n_3 c_1) ∧
 KeptL [n_1] w' w'_1 ∧
 CallsS Try.prog 18 #[Value.slice p_1 n_3 c_1] w'_1 fun (e : Ending) (w' : World) =>
 ∃ (x : Int),
 e = Ending.returned (Value.int IntKind.i64 x) ∧
 KeptL [n_1] w'_1 w' ∧
 CallsS Try.prog 19 #[Value.slice p n c] w' fun (e : Ending) (w'_2 : World) =>
 ∃ (x_1 : Int),
 e = Ending.returned (Value.int IntKind.i64 x_1) ∧
 KeptL [n_1] w' w'_2 ∧
 bsp (x != x_1) (R (Ending.returned (Value.bool false)) w'_2)
 (CallsS Try.prog 19 #[Value.slice p n c] w'_2 fun (e : Ending) (w' : World) =>
 ∃ (x : Int),
 e = Ending.returned (Value.int IntKind.i64 x) ∧
 KeptL [n_1] w'_2 w' ∧
 bsp (x == 0)
 (CallsS Try.prog 20 #[Value.slice p n c, Value.slice gp gn gc] w'
 fun (e : Ending) (w'_3 : World) =>
 ∃ (x : Int),
 ∃ (x_2 : Int),
 e =
 Ending.returned
 (Value.tuple #[Value.int IntKind.i64 x, Value.int IntKind.i64 x_2]) ∧
 KeptL [n_1] w' w'_3 ∧
 CallsS Try.prog 16
 #[Value.agg
 (arrI IntKind.u8 id 32 0 ++ [Value.int IntKind.i64 dt, Value.int IntKind.i64 ar, Value.slice gp gn gc,
 Value.int IntKind.i64 by_, Value.int IntKind.i64 ct, Value.slice hp hn hc,
 Value.bool wd]).toArray]
 w'_3 fun (e : Ending) (w' : World) =>
 ∃ (f : Nat → Int),
 ∃ (x_3 : Int),
 ∃ (x_4 : Int),
 ∃ (p : Option Addr),
 ∃ (n : Nat),
 ∃ (c : Nat),
 ∃ (x_5 : Int),
 ∃ (x_6 : Int),
 ∃ (p_2 : Option Addr),
 ∃ (n_4 : Nat),
 ∃ (c_2 : Nat),
 ∃ (x_7 : Bool),
 e =
 Ending.returned
 (Value.agg
 (arrI IntKind.u8 f 32 0 ++ [Value.int IntKind.i64 x_3, Value.int IntKind.i64 x_4,
 Value.slice p n c, Value.int IntKind.i64 x_5,
 Value.int IntKind.i64 x_6, Value.slice p_2 n_4 c_2,
 Value.bool x_7]).toArray) ∧
 KeptL [n_1] w'_3 w' ∧
 CallsS Try.prog 21
 #[Value.slice p_1 n_3 c_1,
 Value.agg
 (arrI IntKind.u8 f 32 0 ++ [Value.int IntKind.i64 x_3, Value.int IntKind.i64 x_4,
 Value.slice p n c, Value.int IntKind.i64 x_5,
 Value.int IntKind.i64 x_6, Value.slice p_2 n_4 c_2,
 Value.bool x_7]).toArray]
 w' fun (e : Ending) (w'_4 : World) =>
 ∃ (x_8 : Int),
 e = Ending.returned (Value.int IntKind.i64 x_8) ∧
 KeptL [n_1] w' w'_4 ∧
 bsp (x_8 == x)
 (CallsS Try.prog 16
 #[Value.agg
 (arrI IntKind.u8 id 32 0 ++ [Value.int IntKind.i64 dt,
 Value.int IntKind.i64 ar, Value.slice gp gn gc,
 Value.int IntKind.i64 by_, Value.int IntKind.i64 ct,
 Value.slice hp hn hc, Value.bool wd]).toArray]
 w'_4 fun (e : Ending) (w' : World) =>
 ∃ (f : Nat → Int),
 ∃ (x : Int),
 ∃ (x_9 : Int),
 ∃ (p : Option Addr),
 ∃ (n : Nat),
 ∃ (c : Nat),
 ∃ (x_10 : Int),
 ∃ (x_11 : Int),
 ∃ (p_3 : Option Addr),
 ∃ (n_5 : Nat),
 ∃ (c_3 : Nat),
 ∃ (x_12 : Bool),
 e =
 Ending.returned
 (Value.agg
 (arrI IntKind.u8 f 32 0 ++ [Value.int IntKind.i64 x,
 Value.int IntKind.i64 x_9,
 Value.slice p n c,
 Value.int IntKind.i64 x_10,
 Value.int IntKind.i64 x_11,
 Value.slice p_3 n_5 c_3,
 Value.bool x_12]).toArray) ∧
 KeptL [n_1] w'_4 w' ∧
 CallsS Try.prog 22
 #[Value.slice p_1 n_3 c_1,
 Value.agg
 (arrI IntKind.u8 f 32 0 ++ [Value.int IntKind.i64 x,
 Value.int IntKind.i64 x_9,
 Value.slice p n c,
 Value.int IntKind.i64 x_10,
 Value.int IntKind.i64 x_11,
 Value.slice p_3 n_5 c_3, Value.bool x_12]).toArray]
 w' fun (e : Ending) (w'_5 : World) =>
 ∃ (x : Int),
 e =
 Ending.returned
 (Value.int IntKind.i64 x) ∧
 KeptL [n_1] w' w'_5 ∧
 R
 (Ending.returned
 (Value.bool (true && x == x_2)))
 w'_5)
 (KeptL [n_1] w'_4 w'_4 ∧
 KeptL [n_1] w'_4 w'_4 ∧
 R (Ending.returned (Value.bool false)) w'_4))
 (CallsS Try.prog 16
 #[Value.agg
 (arrI IntKind.u8 id 32 0 ++ [Value.int IntKind.i64 dt, Value.int IntKind.i64 ar, Value.slice gp gn gc,
 Value.int IntKind.i64 by_, Value.int IntKind.i64 ct, Value.slice hp hn hc,
 Value.bool wd]).toArray]
 w' fun (e : Ending) (w'_3 : World) =>
 ∃ (f : Nat → Int),
 ∃ (x : Int),
 ∃ (x_2 : Int),
 ∃ (p : Option Addr),
 ∃ (n : Nat),
 ∃ (c : Nat),
 ∃ (x_3 : Int),
 ∃ (x_4 : Int),
 ∃ (p_2 : Option Addr),
 ∃ (n_4 : Nat),
 ∃ (c_2 : Nat),
 ∃ (x_5 : Bool),
 e =
 Ending.returned
 (Value.agg
 (arrI IntKind.u8 f 32 0 ++ [Value.int IntKind.i64 x, Value.int IntKind.i64 x_2,
 Value.slice p n c, Value.int IntKind.i64 x_3,
 Value.int IntKind.i64 x_4, Value.slice p_2 n_4 c_2,
 Value.bool x_5]).toArray) ∧
 KeptL [n_1] w' w'_3 ∧
 CallsS Try.prog 21
 #[Value.slice p_1 n_3 c_1,
 Value.agg
 (arrI IntKind.u8 f 32 0 ++ [Value.int IntKind.i64 x, Value.int IntKind.i64 x_2,
 Value.slice p n c, Value.int IntKind.i64 x_3,
 Value.int IntKind.i64 x_4, Value.slice p_2 n_4 c_2,
 Value.bool x_5]).toArray]
 w'_3 fun (e : Ending) (w' : World) =>
 ∃ (x : Int),
 e = Ending.returned (Value.int IntKind.i64 x) ∧
 KeptL [n_1] w'_3 w' ∧
 bsp (x == 0)
 (CallsS Try.prog 16
 #[Value.agg
 (arrI IntKind.u8 id 32 0 ++ [Value.int IntKind.i64 dt, Value.int IntKind.i64 ar,
 Value.slice gp gn gc, Value.int IntKind.i64 by_,
 Value.int IntKind.i64 ct, Value.slice hp hn hc,
 Value.bool wd]).toArray]
 w' fun (e : Ending) (w'_4 : World) =>
 ∃ (f : Nat → Int),
 ∃ (x : Int),
 ∃ (x_6 : Int),
 ∃ (p : Option Addr),
 ∃ (n : Nat),
 ∃ (c : Nat),
 ∃ (x_7 : Int),
 ∃ (x_8 : Int),
 ∃ (p_3 : Option Addr),
 ∃ (n_5 : Nat),
 ∃ (c_3 : Nat),
 ∃ (x_9 : Bool),
 e =
 Ending.returned
 (Value.agg
 (arrI IntKind.u8 f 32 0 ++ [Value.int IntKind.i64 x,
 Value.int IntKind.i64 x_6, Value.slice p n c,
 Value.int IntKind.i64 x_7,
 Value.int IntKind.i64 x_8,
 Value.slice p_3 n_5 c_3, Value.bool x_9]).toArray) ∧
 KeptL [n_1] w' w'_4 ∧
 CallsS Try.prog 22
 #[Value.slice p_1 n_3 c_1,
 Value.agg
 (arrI IntKind.u8 f 32 0 ++ [Value.int IntKind.i64 x,
 Value.int IntKind.i64 x_6, Value.slice p n c,
 Value.int IntKind.i64 x_7,
 Value.int IntKind.i64 x_8,
 Value.slice p_3 n_5 c_3, Value.bool x_9]).toArray]
 w'_4 fun (e : Ending) (w' : World) =>
 ∃ (x : Int),
 e = Ending.returned (Value.int IntKind.i64 x) ∧
 KeptL [n_1] w'_4 w' ∧
 R
 (Ending.returned
 (Value.bool (true && x == 0)))
 w')
 (KeptL [n_1] w' w' ∧
 KeptL [n_1] w' w' ∧
 R (Ending.returned (Value.bool false)) w')))))
 (KeptL [n_1] w' w' ∧
 CallsS Try.prog 10 #[] w' fun (e : Ending) (w'_1 : World) =>
 ∃ (x : Bool),
 e = Ending.returned (Value.bool x) ∧ KeptL [n_1] w' w'_1 ∧ R (Ending.returned (Value.bool x)) w'_1)
theorem vc_lexrules (p : Option Addr) (n : Nat) (c : Nat) (id : Nat → Int) (dt : Int) (ar : Int) (gp : Option Addr) (gn : Nat) (gc : Nat) (by_ : Int) (ct : Int) (hp : Option Addr) (hn : Nat) (hc : Nat) (wd : Bool) (w : World) (R : Ending → World → Prop) (h : VC_lexrules p n c id dt ar gp gn gc by_ ct hp hn hc wd w R) : Calls Try.prog 5 ([Value.slice
    p n c,
  Value.agg
    (arrI IntKind.u8 id 32 0 ++
        [Value.int IntKind.i64 dt, Value.int IntKind.i64 ar, Value.slice gp gn gc, Value.int IntKind.i64 by_,
          Value.int IntKind.i64 ct, Value.slice hp hn hc, Value.bool wd]).toArray] : List Value).toArray w R := by
  have e : execR2 { P := Try.prog, loops := [], pur := pur2, tails := [], joins := [], boxes := [] } Try.f5.results.toList R (Try.f5.body.getD .skip) (initF [Value.slice
    p n c,
  Value.agg
    (arrI IntKind.u8 id 32 0 ++
        [Value.int IntKind.i64 dt, Value.int IntKind.i64 ar, Value.slice gp gn gc, Value.int IntKind.i64 by_,
          Value.int IntKind.i64 ct, Value.slice hp hn hc,
          Value.bool
            wd]).toArray] (Try.f5.ntmps - ([Value.slice p n c,
  Value.agg
    (arrI IntKind.u8 id 32 0 ++
        [Value.int IntKind.i64 dt, Value.int IntKind.i64 ar, Value.slice gp gn gc, Value.int IntKind.i64 by_,
          Value.int IntKind.i64 ct, Value.slice hp hn hc,
          Value.bool
            wd]).toArray] : List Value).length)) w = VC_lexrules p n c id dt ar gp gn gc by_ ct hp hn hc wd w R := by kernel_rfl
  have hb : Try.f5.body = some (Try.f5.body.getD .skip) := by kernel_rfl
  exact calls_of_exec2' (P := Try.prog) (fn := Try.f5) (c := Try.f5.body.getD .skip) (args := [Value.slice p n c,
  Value.agg
    (arrI IntKind.u8 id 32 0 ++
        [Value.int IntKind.i64 dt, Value.int IntKind.i64 ar, Value.slice gp gn gc, Value.int IntKind.i64 by_,
          Value.int IntKind.i64 ct, Value.slice hp hn hc,
          Value.bool wd]).toArray]) (w := w) (R := R) pur2_ok Try.func5 hb e h

end Go.Proofs.Ytmjanmffnblcoaa

/- Chapter 42: reasons compared; the examples hold (known). No condition. -/
namespace Go.Proofs.Ytmjanmffnblcoaa
open Go.RowKit Go.Sort Go.Maps

theorem whyKey {f : Nat → Int} (hf : ∀ j, 0 ≤ f j ∧ f j ≤ 255) {k : Int} (hk : 0 ≤ k ∧ k ≤ 5) (D : Nat) : Try.prog.keyLits (D + 3) 44 (whyL f k) = some ((idI f).map (Lit.int .u8) ++ [.int .i64 k]) := by
  unfold Program.keyLits
  rw [Try.underlying44]
  simp only
  have c0 : Try.prog.cellsOf 44 = 33 := by kernel_rfl
  rw [if_pos ⟨by rw [c0]; rfl, by decide +kernel⟩]
  have h1 := keyLits_bytes (P := Try.prog) (t := 38) (e := 5) (n := 32) Try.underlying38 Try.underlying5 (by kernel_rfl) (by kernel_rfl) (idI_len f) (idI_bd hf) D
  have h2 : Try.prog.keyLits (D + 2) 3 [.int .i64 k] = some [.int .i64 k] := by
    unfold Program.keyLits
    rw [Try.underlying3]
    simp only
    have hw : (Lit.int .i64 k).wf = true := by simp [Lit.wf, IntKind.min, IntKind.max, IntKind.bits, IntKind.signed]; omega
    simp [hw]
  have c1 : Try.prog.cellsOf 38 = 32 := by kernel_rfl
  have c2 : Try.prog.cellsOf 3 = 1 := by kernel_rfl
  simp only [List.mapM_cons, List.mapM_nil, c1, c2]
  have e1 : ((whyL f k).drop 0).take 32 = (idI f).map (Value.int .u8) := rfl
  have e2 : ((whyL f k).drop 32).take 1 = [.int .i64 k] := rfl
  rw [e1, e2, h1, h2]
  simp
theorem whyEq {f : Nat → Int} (hf : ∀ j, 0 ≤ f j ∧ f j ≤ 255) {k : Int} (hk : 0 ≤ k ∧ k ≤ 5) : EqP Try.prog 44 (.agg (whyL f k).toArray) (.agg (whyL f k).toArray) true := by
  have hkey : keyOf Try.prog 44 (.agg (whyL f k).toArray) = some (.string (keyBytes ((idI f).map (Lit.int .u8) ++ [.int .i64 k]))) := by
    unfold keyOf
    rw [Try.underlying44]
    simp only
    have h1 : Try.prog.keyType 44 = true := by kernel_rfl
    have hf' : (Value.agg (whyL f k).toArray).formed Try.prog 44 = true := by
      unfold Value.formed
      rw [Try.underlying44]
      have c0 : Try.prog.cellsOf 44 = 33 := by kernel_rfl
      simp only
      rw [c0]; rfl
    rw [h1, hf']
    have h2 := whyKey hf hk (Try.prog.types.size - 2)
    have hsz : 2 ≤ Try.prog.types.size := by decide +kernel
    have e2 : Try.prog.types.size - 2 + 3 = Try.prog.types.size + 1 := by omega
    rw [e2] at h2
    have : (Value.agg (whyL f k).toArray).cells.toList = whyL f k := by simp [Value.cells]
    rw [this, h2]
    rfl
  refine ⟨fun w => ?_, by kernel_rfl, _, _, rfl, rfl⟩
  obtain ⟨r, hr, hi⟩ := run_equal_deep w (m := 3) (by omega) (by kernel_rfl) (by rw [Try.underlying44]) hkey hkey
  rw [hr, hi.2 rfl]
/-- A block is a row of elements. -/
theorem rowA_block {α : Type} {f : α → List Value} {L : Nat} {w : World} {n : Nat} {T : TypeId} {fz : Nat × Nat} {l : List α} (h : w.heap[n]? = some (.cells (l.flatMap f).toArray T fz)) (hl : ∀ y, (f y).length = L) : RowA f L w (some ⟨n, 0, none⟩) l := fun k y hy => by
  refine ⟨n, 0, rfl, AtL_block h ?_⟩
  rw [hl y, Nat.zero_add]
  apply List.ext_getElem?
  intro j
  rw [List.getElem?_take]
  split
  · rename_i hj
    rw [List.getElem?_drop]
    exact flat_get f L l k y j (fun z _ => hl z) hy hj
  · rename_i hj
    rw [List.getElem?_eq_none (by rw [hl y]; omega)]
def b0 (s : String) : ByteArray := s.toUTF8
/-- The example's rules and article. -/
def exL : List Rl := [⟨⟨#[42]⟩, 0, 10⟩, ⟨⟨#[114, 101, 99, 46, 42]⟩, 5, 30⟩]
def exI (j : Nat) : Int := if j = 0 then 1 else 0
def exA (p : Option Addr) : AX := ⟨exI, 0, 0, p, 2, [⟨#[97, 108, 116, 46, 116, 101, 115, 116]⟩, ⟨#[114, 101, 99, 46, 98, 111, 97, 116, 115]⟩], 7, 0, none, 0, [], false⟩
theorem exA_pl (p : Option Addr) : (exA p).pl = (exA none).pl := rfl
theorem ex_err : planErr exL [(exA none).pl] 43200 100 = 0 := by decide +kernel
theorem ex_plan : (refP exL 43200 100 1 [(exA none).pl]).1 = [(idI exI, 2)] := by decide +kernel
theorem ex_chk : chkR exL = 0 := by decide +kernel
theorem ex_days : daysR exL (exA none).gs = (5, 30) := by decide +kernel
set_option maxRecDepth 100000 in
theorem known_any (w : World) : Calls Try.prog 10 #[] w fun e w' => e = .returned (.bool true) ∧ K0 w w' := by
  refine vc_lknown w _ ?_
  intro n n1 W hW n2 n3 W1 hW1
  have kW : K0 w W := hW.kk rfl
  have kW1 : K0 W W1 := hW1.kk rfl
  have kw1 : K0 w W1 := kW.trans kW1
  have hn := hW1.cells 2 rfl
  have hn3 := hW1.cells 0 rfl
  have hgs := kW1.blk (hW.cells 0 rfl) (fun h => h)
  have hR : RowA rlC 3 W1 (some ⟨n, 0, none⟩) exL := rowA_block hn rlC_length
  have hA : RowA axC 39 W1 (some ⟨n3, 0, none⟩) [exA (some ⟨n1, 0, none⟩)] := rowA_block hn3 axC_length
  have hS : StrP W1 (some ⟨n1, 0, none⟩) (exA none).gs := fun j z hz => by
    refine ⟨n1, 0, rfl, ?_⟩
    rw [Nat.zero_add]
    refine cell_at hgs ?_
    have : j = 0 ∨ j = 1 := by have := (List.getElem?_eq_some_iff.1 hz).1; simp [exA] at this; omega
    rcases this with rfl | rfl
    · simp [exA] at hz; subst hz; rfl
    · simp [exA] at hz; subst hz; rfl
  have hX : AXR W1 (exA (some ⟨n1, 0, none⟩)) := ⟨hS, RowA.nil⟩
  have hgl : ∀ z ∈ (exA none).gs, z.size ≤ 60 := by
    intro z hz
    simp [exA] at hz
    rcases hz with rfl | rfl <;> decide
  refine ⟨(eplan_any exL (some ⟨n, 0, none⟩) 2 [exA (some ⟨n1, 0, none⟩)] (some ⟨n3, 0, none⟩) 1 43200 100 W1 hR hA (fun x hx => by simp at hx; subst hx; exact hX) (fun x hx => by
    simp at hx; subst hx
    exact ⟨Nat.le_of_ble_eq_true rfl, fun z hz => by have := hgl z hz; omega, Nat.le_of_ble_eq_true rfl, fun j => by show 0 ≤ exI j ∧ exI j ≤ 255; unfold exI; split <;> decide, fun h hh => by cases hh⟩) (Nat.le_of_ble_eq_true rfl)).mono fun e w2 ⟨k2, he⟩ => ?_⟩
  have e0 : planErr exL ([exA (some ⟨n1, 0, none⟩)].map AX.pl) 43200 100 = 0 := ex_err
  rcases he with ⟨h, _⟩ | ⟨_, R, p', c', he, hown, hplan, hRb⟩
  · exact absurd e0 h
  have hplan : R.map whyS = [(idI exI, 2)] := hplan.trans ex_plan
  obtain ⟨r, rfl⟩ : ∃ r, R = [r] := by
    match R, hplan with
    | [r], _ => exact ⟨r, rfl⟩
    | [], h => simp at h
    | _ :: _ :: _, h => simp at h
  simp only [List.map_cons, List.map_nil, List.cons.injEq, and_true] at hplan
  have hid : idI r.1 = idI exI := congrArg (·.1) hplan
  have hk : r.2 = 2 := congrArg (·.2) hplan
  refine ⟨_, _, _, _, he, .of_k0 k2, ?_⟩
  have d1 : (if chkR exL = 0 then (daysR exL (exA (some ⟨n1, 0, none⟩)).gs).1 else 0) = 5 := by
    rw [if_pos ex_chk]
    exact congrArg (·.1) ex_days
  have d2 : (if chkR exL = 0 then (daysR exL (exA (some ⟨n1, 0, none⟩)).gs).2 else 0) = 30 := by
    rw [if_pos ex_chk]
    exact congrArg (·.2) ex_days
  refine ⟨(eleast_any exL (some ⟨n, 0, none⟩) 2 (exA (some ⟨n1, 0, none⟩)) w2 (hR.k0 k2) (hS.k0 k2) (Nat.le_of_ble_eq_true rfl) (fun z hz => by have := hgl z hz; omega)).mono fun e w3 ⟨he, k3⟩ => ⟨_, he, .of_k0 k3, ?_⟩⟩
  rw [d1]
  refine bsp_intro (fun _ => ?_) (fun h => absurd h (by decide))
  refine ⟨(emost_any exL (some ⟨n, 0, none⟩) 2 (exA (some ⟨n1, 0, none⟩)) w3 (hR.k0 (k2.trans k3)) (hS.k0 (k2.trans k3)) (Nat.le_of_ble_eq_true rfl) (fun z hz => by have := hgl z hz; omega)).mono fun e w4 ⟨he, k4⟩ => ⟨_, he, .of_k0 k4, ?_⟩⟩
  rw [d2]
  have hrow : RowA whyC 33 w4 p' [r] := (RowA.own hown whyC_length (by decide)).k0 (k3.trans k4)
  obtain ⟨b, o, hp, hat⟩ := hrow 0 r rfl
  have harr : whyC r = whyL exI 2 := by
    unfold whyC whyL
    rw [arrI_idI, hid, hk]; rfl
  rw [harr, Nat.zero_mul, Nat.add_zero] at hat
  refine nn_eq hp ⟨gimp_intro fun _ => by simp, exI, 2, gimp_intro fun _ => hat, true, gimp_intro fun _ => whyEq (fun j => by unfold exI; split <;> decide) (by decide), ?_, ((kw1.trans k2).trans k3).trans k4⟩
  rfl

end Go.Proofs.Ytmjanmffnblcoaa

/- Chapter 42: the statements ExpiryHeld and ExpiryRules return true, on worlds. -/
namespace Go.Proofs.Ytmjanmffnblcoaa
open Go.RowKit Go.Sort Go.Maps

theorem smA_sz {x : AX} (h : smA x = true) : x.gs.length ≤ 5 ∧ x.hs.length ≤ 5 ∧ ∀ z ∈ x.gs, z.size ≤ 60 := by
  unfold smA at h
  simp only [Bool.and_eq_true, decide_eq_true_eq, List.all_eq_true] at h
  exact ⟨h.1.1, h.1.2, h.2⟩
theorem smallB_sz {L : List Rl} {l : List AX} (h : smallB L l = true) : (∀ r ∈ L, r.pat.size ≤ 100) ∧ (∀ x ∈ l, smA x = true) ∧ L.length ≤ 10 ∧ l.length ≤ 12 := by
  unfold smallB at h
  simp only [Bool.and_eq_true, decide_eq_true_eq, List.all_eq_true] at h
  exact ⟨h.1.1, h.1.2, h.2.1, h.2.2⟩
/-- What a reading tells of an article. -/
structure ArRd (x : AX) : Prop where
  id : ∀ j, 0 ≤ x.id j ∧ x.id j ≤ 255
  hs : ∀ h ∈ x.hs, ∀ j, 0 ≤ h j ∧ h j ≤ 255
theorem ArRd.sz {x : AX} (h : ArRd x) (hs : smA x = true) : ArSz x := by
  obtain ⟨h1, h2, h3⟩ := smA_sz hs
  exact ⟨by omega, fun z hz => by have := h3 z hz; omega, by omega, h.id, h.hs⟩
set_option maxRecDepth 100000 in
set_option maxHeartbeats 1000000 in
theorem lheld_any (x : AX) (w : World) (hx : AXR w x) (hr : ArRd x) :
    Calls Try.prog 4 #[.agg (axC x).toArray] w fun e w' => e = .returned (.bool true) ∧ K0 w w' := by
  refine vc_lheld x.id x.dt x.ar x.gp x.gs.length x.gc x.by_ x.ct x.hp x.hs.length x.hc x.wd w _ ?_
  intro n W hW
  have kW : K0 w W := hW.kk rfl
  refine ⟨(known_any W).mono fun e w1 ⟨he, k1⟩ => ⟨_, he, .of_k0 k1, bsp_intro (fun _ => ?_) (fun h => absurd h (by decide))⟩⟩
  intro n1 W2 hW2
  have k2 : K0 w1 W2 := hW2.kk rfl
  have kw2 : K0 w W2 := (kW.trans k1).trans k2
  have hrow : RowA axC 39 W2 (some ⟨n1, 0, none⟩) [x] := rowA_block (hW2.cells 0 rfl) axC_length
  refine ⟨(lsmall_any [] none 0 [x] (some ⟨n1, 0, none⟩) 1 W2 RowA.nil hrow (fun y hy => by simp at hy; subst hy; exact hx.gs.k0 kw2) (by simp) (by simp)).mono fun e w3 ⟨he, k3⟩ => ⟨_, he, .of_k0 k3, ?_⟩⟩
  have kw3 : K0 w w3 := kw2.trans k3
  refine bsp_intro (fun _ => ⟨(known_any w3).mono fun e w4 ⟨he, k4⟩ => ⟨_, he, .of_k0 k4, rfl, kw3.trans k4⟩⟩) (fun hs => ?_)
  have hs : smA x = true := (smallB_sz (L := []) (l := [x]) (by simpa using hs)).2.1 x (by simp)
  obtain ⟨hg5, hh5, _⟩ := smA_sz hs
  refine ⟨fun vs w' => ∃ i : Nat, vs = [.int .i64 (i : Int), .bool ((x.hs.take i).any fun h => (h 0).tmod 2 == 1)] ∧ i ≤ x.hs.length ∧ K0 w3 w', fun vs _ => (match vs with | .int _ a :: _ => x.hs.length - a.toNat | _ => 0), ⟨0, rfl, by omega, .refl _ _⟩, ?_⟩
  rintro a b w4 ⟨i, hv, hi, k4⟩ hL4
  simp only [List.cons.injEq, Value.int.injEq, Value.bool.injEq, true_and, and_true] at hv
  obtain ⟨rfl, rfl⟩ := hv
  have kw4 := kw3.trans k4
  refine bsp_intro (fun hlt => ?_) (fun hge => ?_)
  · have hlt : i < x.hs.length := by simp at hlt; omega
    obtain ⟨h, b, o, hy, hp, hat⟩ := (hx.hs.k0 kw4).get hlt
    refine ⟨x.hp, x.hs.length, x.hc, gimp_intro fun _ => cell_at (hL4.cells 0 rfl) rfl, nn_eq hp ⟨gimp_intro fun _ => by omega, gimp_intro fun _ => by omega, h 0, gimp_intro fun _ => by rw [Int.toNat_natCast]; simpa using hat.cell (j := 0) (v := .int .u8 (h 0)) rfl, ⟨i + 1, ?_, hlt, k4⟩, by rw [inc64 (by omega)]; simp only [Int.toNat_natCast]; omega⟩⟩
    rw [inc64 (by omega), take_snoc hy, List.any_append]
    simp
  · have hi : i = x.hs.length := by simp at hge; omega
    subst hi
    rw [List.take_length]
    refine ⟨(larticle_any x w4 (hx.hs.k0 kw4) (by omega)).mono fun e w5 ⟨p', c', he, hown, k5⟩ => ⟨_, _, _, _, _, _, _, _, _, _, _, _, he, .of_k0 k5, ?_⟩⟩
    refine ⟨(eheld_any (x.mv p' c') 17 #[] #[] (fun h => (h 0).tmod 2 == 1) w5 (RowA.own hown idL_length (by decide)) (by show x.hs.length ≤ _; omega) (by kernel_rfl) (fun y _ w6 _ => lodd_any y w6)).mono fun e w6 ⟨he, k6⟩ => ⟨_, he, .of_k0 k6, ?_⟩⟩
    have kw6 : K0 w w6 := (kw4.trans k5).trans k6
    refine bsp_intro (fun _ => ?_) (fun h => by exfalso; simp [AX.mv] at h)
    refine ⟨(larticle_any x w6 (hx.hs.k0 kw6) (by omega)).mono fun e w7 ⟨p2, c2, he, hown2, k7⟩ => ⟨_, _, _, _, _, _, _, _, _, _, _, _, he, .of_k0 k7, ?_⟩⟩
    exact ⟨(eheldN_any (x.mv p2 c2) w7).mono fun e w8 ⟨he, k8⟩ => ⟨_, he, .of_k0 k8, rfl, (kw6.trans k7).trans k8⟩⟩
set_option maxRecDepth 100000 in
set_option maxHeartbeats 1000000 in
theorem lexrules_any (L : List Rl) (p : Option Addr) (c : Nat) (x : AX) (w : World) (hR : RowA rlC 3 w p L) (hL : L.length ≤ 4611686018427387904) (hx : AXR w x) (hr : ArRd x) :
    Calls Try.prog 5 #[.slice p L.length c, .agg (axC x).toArray] w fun e w' => e = .returned (.bool true) ∧ K0 w w' := by
  refine vc_lexrules p L.length c x.id x.dt x.ar x.gp x.gs.length x.gc x.by_ x.ct x.hp x.hs.length x.hc x.wd w _ ?_
  intro n W hW
  have kW : K0 w W := hW.kk rfl
  refine ⟨(known_any W).mono fun e w1 ⟨he, k1⟩ => ⟨_, he, .of_k0 k1, bsp_intro (fun _ => ?_) (fun h => absurd h (by decide))⟩⟩
  intro n1 W2 hW2
  have k2 : K0 w1 W2 := hW2.kk rfl
  have kw2 : K0 w W2 := (kW.trans k1).trans k2
  have hrow : RowA axC 39 W2 (some ⟨n1, 0, none⟩) [x] := rowA_block (hW2.cells 0 rfl) axC_length
  refine ⟨(lsmall_any L p c [x] (some ⟨n1, 0, none⟩) 1 W2 (hR.k0 kw2) hrow (fun y hy => by simp at hy; subst hy; exact hx.gs.k0 kw2) hL (by simp)).mono fun e w3 ⟨he, k3⟩ => ⟨_, he, .of_k0 k3, ?_⟩⟩
  have kw3 : K0 w w3 := kw2.trans k3
  refine bsp_intro (fun _ => ⟨(known_any w3).mono fun e w4 ⟨he, k4⟩ => ⟨_, he, .of_k0 k4, rfl, kw3.trans k4⟩⟩) (fun hs => ?_)
  obtain ⟨hpat, hsm, hL10, _⟩ := smallB_sz (L := L) (l := [x]) (by simpa using hs)
  obtain ⟨hg5, hh5, hz⟩ := smA_sz (hsm x (by simp))
  refine ⟨(lrules_any L p c w3 (hR.k0 kw3) (by omega)).mono fun e w4 ⟨p', c', he, hown, k4⟩ => ⟨_, _, _, he, .of_k0 k4, ?_⟩⟩
  have kw4 := kw3.trans k4
  have hR' : RowA rlC 3 w4 p' L := RowA.own hown rlC_length (by decide)
  refine ⟨(echeck_any L p' c' w4 hR').mono fun e w5 ⟨he, k5⟩ => ⟨_, he, .of_k0 k5, ?_⟩⟩
  have kw5 := kw4.trans k5
  refine ⟨(xcheck_any L p c w5 (hR.k0 kw5)).mono fun e w6 ⟨he, k6⟩ => ⟨_, he, .of_k0 k6, bsp_intro (fun h => by exfalso; simp at h) (fun _ => ?_)⟩⟩
  have kw6 := kw5.trans k6
  refine ⟨(xcheck_any L p c w6 (hR.k0 kw6)).mono fun e w7 ⟨he, k7⟩ => ⟨_, he, .of_k0 k7, ?_⟩⟩
  have kw7 := kw6.trans k7
  have k47 : K0 w4 w7 := (k5.trans k6).trans k7
  -- Least and Most, in a world later on
  have least : ∀ wx, K0 w7 wx → CallsS Try.prog 16 #[.agg (axC x).toArray] wx fun e wy => ∃ (p2 : Option Addr) (c2 : Nat), e = .returned (.agg (axC (x.mv p2 c2)).toArray) ∧ K0 wx wy ∧
      CallsS Try.prog 21 #[.slice p' L.length c', .agg (axC (x.mv p2 c2)).toArray] wy fun e wz => e = .returned (.int .i64 (if chkR L = 0 then (daysR L x.gs).1 else 0)) ∧ K0 wy wz := fun wx kx =>
    ⟨(larticle_any x wx (hx.hs.k0 (kw7.trans kx)) (by omega)).mono fun e wy ⟨p2, c2, he, _, ky⟩ => ⟨p2, c2, he, ky, ⟨eleast_any L p' c' (x.mv p2 c2) wy (hR'.k0 ((k47.trans kx).trans ky)) (hx.gs.k0 ((kw7.trans kx).trans ky)) (by show x.gs.length ≤ _; omega) (fun z h => by have := hz z h; omega)⟩⟩⟩
  have most : ∀ wx, K0 w7 wx → CallsS Try.prog 16 #[.agg (axC x).toArray] wx fun e wy => ∃ (p2 : Option Addr) (c2 : Nat), e = .returned (.agg (axC (x.mv p2 c2)).toArray) ∧ K0 wx wy ∧
      CallsS Try.prog 22 #[.slice p' L.length c', .agg (axC (x.mv p2 c2)).toArray] wy fun e wz => e = .returned (.int .i64 (if chkR L = 0 then (daysR L x.gs).2 else 0)) ∧ K0 wy wz := fun wx kx =>
    ⟨(larticle_any x wx (hx.hs.k0 (kw7.trans kx)) (by omega)).mono fun e wy ⟨p2, c2, he, _, ky⟩ => ⟨p2, c2, he, ky, ⟨emost_any L p' c' (x.mv p2 c2) wy (hR'.k0 ((k47.trans kx).trans ky)) (hx.gs.k0 ((kw7.trans kx).trans ky)) (by show x.gs.length ≤ _; omega) (fun z h => by have := hz z h; omega)⟩⟩⟩
  refine bsp_intro (fun h0 => ?_) (fun h0 => ?_)
  · have h0 : chkR L = 0 := by simpa using h0
    rw [if_pos h0] at least most
    refine ⟨(xdays_any L p c x.gs x.gp x.gc w7 (hR.k0 kw7) h0 (hx.gs.k0 kw7) (by omega) (fun z h => by have := hz z h; omega)).mono fun e w8 ⟨he, k8⟩ => ⟨_, _, he, .of_k0 k8, ?_⟩⟩
    refine ⟨(least w8 k8).1.mono fun e w9 ⟨p2, c2, he, k9, hc⟩ => ⟨_, _, _, _, _, _, _, _, _, _, _, _, he, .of_k0 k9, ?_⟩⟩
    refine ⟨hc.1.mono fun e w10 ⟨he, k10⟩ => ⟨_, he, .of_k0 k10, bsp_intro (fun _ => ?_) (fun h => by exfalso; simp at h)⟩⟩
    have k710 := (k8.trans k9).trans k10
    refine ⟨(most w10 k710).1.mono fun e w11 ⟨p3, c3, he, k11, hc⟩ => ⟨_, _, _, _, _, _, _, _, _, _, _, _, he, .of_k0 k11, ?_⟩⟩
    exact ⟨hc.1.mono fun e w12 ⟨he, k12⟩ => ⟨_, he, .of_k0 k12, by simp, ((kw7.trans k710).trans k11).trans k12⟩⟩
  · have h0 : chkR L ≠ 0 := by simpa using h0
    rw [if_neg h0] at least most
    refine ⟨(least w7 (.refl _ _)).1.mono fun e w9 ⟨p2, c2, he, k9, hc⟩ => ⟨_, _, _, _, _, _, _, _, _, _, _, _, he, .of_k0 k9, ?_⟩⟩
    refine ⟨hc.1.mono fun e w10 ⟨he, k10⟩ => ⟨_, he, .of_k0 k10, bsp_intro (fun _ => ?_) (fun h => absurd h (by decide))⟩⟩
    have k710 := k9.trans k10
    refine ⟨(most w10 k710).1.mono fun e w11 ⟨p3, c3, he, k11, hc⟩ => ⟨_, _, _, _, _, _, _, _, _, _, _, _, he, .of_k0 k11, ?_⟩⟩
    exact ⟨hc.1.mono fun e w12 ⟨he, k12⟩ => ⟨_, he, .of_k0 k12, rfl, ((kw7.trans k710).trans k11).trans k12⟩⟩

end Go.Proofs.Ytmjanmffnblcoaa

/- Chapter 42: rules and articles as arguments, with their sizes. No condition. -/
namespace Go.Proofs.Ytmjanmffnblcoaa
open Go.ChangeShapes Go.WideShapes Go.ChangeAt Go.RowKit Go.Deep

theorem list_of {α : Type} [Inhabited α] {n : Nat} {Q : Nat → α → Prop} (h : ∀ i, i < n → ∃ y, Q i y) : ∃ l : List α, l.length = n ∧ ∀ i y, l[i]? = some y → Q i y := by
  have hex : ∃ g : Nat → α, ∀ i, i < n → Q i (g i) := by
    refine ⟨fun i => if h' : i < n then Classical.choose (h i h') else default, fun i hi => ?_⟩
    simp only [hi, dif_pos]
    exact Classical.choose_spec (h i hi)
  obtain ⟨g, hg⟩ := hex
  refine ⟨(List.range n).map g, by simp, fun i y hy => ?_⟩
  rw [List.getElem?_map] at hy
  rcases Nat.lt_or_ge i n with h' | h'
  · simp [h'] at hy
    subst hy
    exact hg i h'
  · simp [h'] at hy
theorem seven {l : List Value} {a b c d e f g : Value} (hl : l.length = 7) (h0 : (l.drop 0).take 1 = [a]) (h1 : (l.drop 1).take 1 = [b]) (h2 : (l.drop 2).take 1 = [c]) (h3 : (l.drop 3).take 1 = [d]) (h4 : (l.drop 4).take 1 = [e]) (h5 : (l.drop 5).take 1 = [f]) (h6 : (l.drop 6).take 1 = [g]) : l = [a, b, c, d, e, f, g] := by
  match l, hl with
  | [x0, x1, x2, x3, x4, x5, x6], _ => simp at h0 h1 h2 h3 h4 h5 h6; simp [h0, h1, h2, h3, h4, h5, h6]
instance : Inhabited Rl := ⟨⟨ByteArray.empty, 0, 0⟩⟩
section
variable {H : Type} {enc : TypeId × Value → H} {W : World} {base : Nat} {v : Value}
theorem cellsR42 : Try.prog.cellsOf 69 = 3 := by kernel_rfl
theorem cellsA42 : Try.prog.cellsOf 48 = 39 := by kernel_rfl
set_option maxRecDepth 100000 in
/-- Rules that were read. -/
theorem open_RL {cs : List Value} (hr : Rw enc Try.prog W 22 cs) : ∃ (p : Option Addr) (L : List Rl) (c : Nat), cs = [.slice p L.length c] ∧ RowA rlC 3 W p L ∧ L.length ≤ c ∧ L.length ≤ 4611686018427387904 := by
  obtain ⟨p, n, c, hcs, hnc, hby, _, hel⟩ := hr.slice Try.underlying22 (by rw [cellsR42]; decide)
  rw [cellsR42] at hel
  rw [show Try.prog.bytesOf 69 = 32 by kernel_rfl] at hby
  have key : ∀ i, i < n → ∃ y : Rl, ∃ b o, p = some ⟨b, o, none⟩ ∧ AtL W b (o + i * 3) (rlC y) := fun i hi => by
    obtain ⟨b, o, cs', hp, hl, hc, hrw⟩ := hel i hi
    match cs', hl with
    | [c0, c1, c2], _ =>
      obtain ⟨s, e0, _⟩ := Rw.str (cs := [c0]) (hrw.field Try.underlying69 (i := 0) rfl) Try.underlying9
      obtain ⟨n1, e1, _⟩ := Rw.int64 (cs := [c1]) (hrw.field Try.underlying69 (i := 1) rfl) Try.underlying3
      obtain ⟨n2, e2, _⟩ := Rw.int64 (cs := [c2]) (hrw.field Try.underlying69 (i := 2) rfl) Try.underlying3
      simp only [List.cons.injEq, and_true] at e0 e1 e2
      subst e0 e1 e2
      exact ⟨⟨s, n1, n2⟩, b, o, hp, ⟨At_of _ _ fun j v hv => hc j v hv⟩⟩
  obtain ⟨L, hlen, hL⟩ := list_of key
  exact ⟨p, L, c, by rw [hlen]; exact hcs, hL, by omega, by omega⟩
set_option maxRecDepth 100000 in
/-- Identities that were read. -/
theorem open_IL {cs : List Value} (hr : Rw enc Try.prog W 46 cs) : ∃ (p : Option Addr) (l : List (Nat → Int)) (c : Nat), cs = [.slice p l.length c] ∧ RowA idL 32 W p l ∧ ∀ h ∈ l, ∀ j, 0 ≤ h j ∧ h j ≤ 255 := by
  have c32 : Try.prog.cellsOf 37 = 32 := by kernel_rfl
  obtain ⟨p, n, c, hcs, hnc, hby, _, hel⟩ := hr.slice Try.underlying46 (by rw [c32]; decide)
  rw [c32] at hel
  have key : ∀ i, i < n → ∃ y : Nat → Int, (∃ b o, p = some ⟨b, o, none⟩ ∧ AtL W b (o + i * 32) (idL y)) ∧ ∀ j, 0 ≤ y j ∧ y j ≤ 255 := fun i hi => by
    obtain ⟨b, o, cs', hp, hl, hc, hrw⟩ := hel i hi
    obtain ⟨f, e0, hf⟩ := Rw.bytes hrw Try.underlying37 Try.underlying5 (by kernel_rfl) (by kernel_rfl)
    subst e0
    exact ⟨f, ⟨b, o, hp, ⟨At_of _ _ fun j v hv => hc j v hv⟩⟩, hf⟩
  obtain ⟨l, hlen, hL⟩ := list_of key
  exact ⟨p, l, c, by rw [hlen]; exact hcs, fun k y hy => (hL k y hy).1, fun h hh => by
    obtain ⟨j, hj, e⟩ := List.getElem_of_mem hh
    exact (hL j h (by rw [List.getElem?_eq_getElem hj, e])).2⟩
set_option maxRecDepth 100000 in
/-- The cells of an article that was read. -/
theorem rw_A {l : List Value} (hl : l.length = 39) (hr : Rw enc Try.prog W 48 l) : ∃ x : AX, l = axC x ∧ AXR W x ∧ ArRd x := by
  obtain ⟨f, e0, hf⟩ := Rw.bytes (cs := (l.drop 0).take 32) (hr.field Try.underlying48 (i := 0) rfl) Try.underlying37 Try.underlying5 (by kernel_rfl) (by kernel_rfl)
  obtain ⟨n1, e1, _⟩ := Rw.int64 (cs := (l.drop 32).take 1) (hr.field Try.underlying48 (i := 1) rfl) Try.underlying3
  obtain ⟨n2, e2, _⟩ := Rw.int64 (cs := (l.drop 33).take 1) (hr.field Try.underlying48 (i := 2) rfl) Try.underlying3
  obtain ⟨gp, gs, gc, e3, _, _, hg, _⟩ := Rw.strs (cs := (l.drop 34).take 1) (hr.field Try.underlying48 (i := 3) rfl) Try.underlying39 Try.underlying9 (by kernel_rfl)
  obtain ⟨n4, e4, _⟩ := Rw.int64 (cs := (l.drop 35).take 1) (hr.field Try.underlying48 (i := 4) rfl) Try.underlying3
  obtain ⟨n5, e5, _⟩ := Rw.int64 (cs := (l.drop 36).take 1) (hr.field Try.underlying48 (i := 5) rfl) Try.underlying3
  obtain ⟨hp, hs, hc, e6, hh, hhb⟩ := open_IL (cs := (l.drop 37).take 1) (hr.field Try.underlying48 (i := 6) rfl)
  obtain ⟨b7, e7⟩ := Rw.bool (cs := (l.drop 38).take 1) (hr.field Try.underlying48 (i := 7) rfl) Try.underlying4
  have hd : ∀ k, l.drop (32 + k) = (l.drop 32).drop k := fun k => by rw [List.drop_drop]
  have e8 := seven (l := l.drop 32) (by simp [hl]) e1 (by rw [← hd]; exact e2) (by rw [← hd]; exact e3) (by rw [← hd]; exact e4) (by rw [← hd]; exact e5) (by rw [← hd]; exact e6) (by rw [← hd]; exact e7)
  have hl2 : l = arrI .u8 f 32 0 ++ [Value.int .i64 n1, Value.int .i64 n2, Value.slice gp gs.length gc, Value.int .i64 n4, Value.int .i64 n5, Value.slice hp hs.length hc, Value.bool b7] := by
    rw [← List.take_append_drop 32 l, e8]
    congr 1
  exact ⟨⟨f, n1, n2, gp, gc, gs, n4, n5, hp, hc, hs, b7⟩, hl2, ⟨hg, hh⟩, ⟨hf, hhb⟩⟩
set_option maxRecDepth 100000 in
/-- Articles that were read. -/
theorem open_AL {cs : List Value} (hr : Rw enc Try.prog W 23 cs) : ∃ (p : Option Addr) (l : List AX) (c : Nat), cs = [.slice p l.length c] ∧ RowA axC 39 W p l ∧ (∀ x ∈ l, AXR W x ∧ ArRd x) ∧ l.length ≤ c ∧ l.length ≤ 4611686018427387904 := by
  obtain ⟨p, n, c, hcs, hnc, hby, _, hel⟩ := hr.slice Try.underlying23 (by rw [cellsA42]; decide)
  rw [cellsA42] at hel
  rw [show Try.prog.bytesOf 48 = 120 by kernel_rfl] at hby
  have key : ∀ i, i < n → ∃ y : AX, (∃ b o, p = some ⟨b, o, none⟩ ∧ AtL W b (o + i * 39) (axC y)) ∧ AXR W y ∧ ArRd y := fun i hi => by
    obtain ⟨b, o, cs', hp, hl, hc, hrw⟩ := hel i hi
    obtain ⟨x, rfl, h1, h2⟩ := rw_A hl hrw
    exact ⟨x, ⟨b, o, hp, ⟨At_of _ _ fun j v hv => hc j v hv⟩⟩, h1, h2⟩
  obtain ⟨l, hlen, hL⟩ := list_of key
  exact ⟨p, l, c, by rw [hlen]; exact hcs, fun k y hy => (hL k y hy).1, fun x hx => by
    obtain ⟨j, hj, e⟩ := List.getElem_of_mem hx
    exact (hL j x (by rw [List.getElem?_eq_getElem hj, e])).2, by omega, by omega⟩
set_option maxRecDepth 100000 in
theorem openw_A (hv : Value.okWide Try.prog W .any base 48 v) (hr : Rw enc Try.prog W 48 v.cells.toList) : ∃ x : AX, v = .agg (axC x).toArray ∧ AXR W x ∧ ArRd x := by
  obtain ⟨cs, rfl, hsz⟩ := okWide_struct Try.underlying48 hv
  rw [cellsA42] at hsz
  obtain ⟨l⟩ := cs
  obtain ⟨x, h1, h2⟩ := rw_A (l := l) hsz hr
  exact ⟨x, congrArg (fun l : List Value => Value.agg l.toArray) h1, h2⟩
set_option maxRecDepth 100000 in
theorem openw_RL (hv : Value.okWide Try.prog W .any base 22 v) (hr : Rw enc Try.prog W 22 v.cells.toList) : ∃ (p : Option Addr) (L : List Rl) (c : Nat), v = .slice p L.length c ∧ RowA rlC 3 W p L ∧ L.length ≤ 4611686018427387904 := by
  obtain ⟨p, n, c, rfl⟩ := okWide_slice Try.underlying22 hv
  obtain ⟨p', L, c', h, h1, _, h2⟩ := open_RL hr
  have h : [Value.slice p n c] = [.slice p' L.length c'] := h
  simp only [List.cons.injEq, and_true] at h
  exact ⟨p', L, c', h, h1, h2⟩
set_option maxRecDepth 100000 in
/-- The arguments of a plan. -/
theorem openw_C (hv : Value.okWide Try.prog W .any base 25 v) (hr : Rw enc Try.prog W 25 v.cells.toList) :
    ∃ (p : Option Addr) (L : List Rl) (c : Nat) (q : Option Addr) (l : List AX) (d : Nat) (now budget : Int), v = .agg #[.slice p L.length c, .slice q l.length d, .int .i64 now, .int .i64 budget] ∧ RowA rlC 3 W p L ∧ L.length ≤ 4611686018427387904 ∧ RowA axC 39 W q l ∧ (∀ x ∈ l, AXR W x ∧ ArRd x) ∧ l.length ≤ d ∧ l.length ≤ 4611686018427387904 := by
  obtain ⟨cs, rfl, hsz⟩ := okWide_struct Try.underlying25 hv
  rw [show Try.prog.cellsOf 25 = 4 by kernel_rfl] at hsz
  obtain ⟨l⟩ := cs
  match l, hsz with
  | [c0, c1, c2, c3], _ =>
    have hr : Rw enc Try.prog W 25 [c0, c1, c2, c3] := hr
    obtain ⟨p, L, c, e0, h1, _, h2⟩ := open_RL (cs := [c0]) (hr.field Try.underlying25 (i := 0) rfl)
    obtain ⟨q, l, d, e1, h3, h4, h5, h6⟩ := open_AL (cs := [c1]) (hr.field Try.underlying25 (i := 1) rfl)
    obtain ⟨n2, e2, _⟩ := Rw.int64 (cs := [c2]) (hr.field Try.underlying25 (i := 2) rfl) Try.underlying3
    obtain ⟨n3, e3, _⟩ := Rw.int64 (cs := [c3]) (hr.field Try.underlying25 (i := 3) rfl) Try.underlying3
    simp only [List.cons.injEq, and_true] at e0 e1 e2 e3
    subst e0 e1 e2 e3
    exact ⟨p, L, c, q, l, d, n2, n3, rfl, h1, h2, h3, h4, h5, h6⟩
end
end Go.Proofs.Ytmjanmffnblcoaa

/- The formulas of functions by the symbolic evaluator, and that each gives the call's contract. Written by a program (gen.py). No condition. -/
namespace Go.Proofs.Ytmjanmffnblcoaa
set_option maxRecDepth 100000
set_option linter.unusedVariables false

def VC_cloneS (p : Option Addr) (n : Nat) (c : Nat) (w : World) (R : Ending → World → Prop) : Prop :=
 bsp p.isNone (R (Ending.returned (Value.slice none 0 0)) w)
 (∀ (n_1 : Nat) (W : World),
 Loc w.heap.size [Blk.mk n_1 9 [] 2] w W →
 ∃ (base : Nat),
 ∃ (xs : List Value),
 ∃ (news : List Value),
 W.ownsRow base 9 1 (Value.slice (some (Addr.mk n_1 0 none)) 0 0) 0 xs ∧
 news.length = n * 1 ∧
 SrcP W p news ∧
 0 + n ≤ 9223372036854775807 ∧
 (0 + n) * 16 ≤ 140737488355328 ∧
 base ≤ W.heap.size ∧
 ∀ (p' : Option Addr) (c' : Nat) (w' : World),
 w'.ownsRow base 9 1 (Value.slice p' (0 + n) c') (0 + n) (xs ++ news) →
 W.grownBy w' (Value.slice (some (Addr.mk n_1 0 none)) 0 0).ownBlock →
 (0 + n ≤ 0 → p' = some (Addr.mk n_1 0 none) ∧ c' = 0) →
 KeptL [] W w' ∧ R (Ending.returned (Value.slice p' (0 + n) c')) w')
theorem vc_cloneS (p : Option Addr) (n : Nat) (c : Nat) (w : World) (R : Ending → World → Prop) (h : VC_cloneS p n c w R) : Calls Try.prog 43 ([Value.slice
    p n c] : List Value).toArray w R := by
  have e : execR2 { P := Try.prog, loops := [], pur := pur0, tails := [], joins := [], boxes := [] } Try.f43.results.toList R (Try.f43.body.getD .skip) (initF [Value.slice
    p n c] (Try.f43.ntmps - ([Value.slice p n c] : List Value).length)) w = VC_cloneS p n c w R := by kernel_rfl
  have hb : Try.f43.body = some (Try.f43.body.getD .skip) := by kernel_rfl
  exact calls_of_exec2' (P := Try.prog) (fn := Try.f43) (c := Try.f43.body.getD .skip) (args := [Value.slice p n
    c]) (w := w) (R := R) pur0_ok Try.func43 hb e h

def VC_cloneI (p : Option Addr) (n : Nat) (c : Nat) (w : World) (R : Ending → World → Prop) : Prop :=
 bsp p.isNone (R (Ending.returned (Value.slice none 0 0)) w)
 (∀ (n_1 : Nat) (W : World),
 Loc w.heap.size [Blk.mk n_1 38 [] 2] w W →
 ∃ (base : Nat),
 ∃ (xs : List Value),
 ∃ (news : List Value),
 W.ownsRow base 38 32 (Value.slice (some (Addr.mk n_1 0 none)) 0 0) 0 xs ∧
 news.length = n * 32 ∧
 SrcP W p news ∧
 0 + n ≤ 9223372036854775807 ∧
 (0 + n) * 32 ≤ 140737488355328 ∧
 base ≤ W.heap.size ∧
 ∀ (p' : Option Addr) (c' : Nat) (w' : World),
 w'.ownsRow base 38 32 (Value.slice p' (0 + n) c') (0 + n) (xs ++ news) →
 W.grownBy w' (Value.slice (some (Addr.mk n_1 0 none)) 0 0).ownBlock →
 (0 + n ≤ 0 → p' = some (Addr.mk n_1 0 none) ∧ c' = 0) →
 KeptL [] W w' ∧ R (Ending.returned (Value.slice p' (0 + n) c')) w')
theorem vc_cloneI (p : Option Addr) (n : Nat) (c : Nat) (w : World) (R : Ending → World → Prop) (h : VC_cloneI p n c w R) : Calls Try.prog 44 ([Value.slice
    p n c] : List Value).toArray w R := by
  have e : execR2 { P := Try.prog, loops := [], pur := pur0, tails := [], joins := [], boxes := [] } Try.f44.results.toList R (Try.f44.body.getD .skip) (initF [Value.slice
    p n c] (Try.f44.ntmps - ([Value.slice p n c] : List Value).length)) w = VC_cloneI p n c w R := by kernel_rfl
  have hb : Try.f44.body = some (Try.f44.body.getD .skip) := by kernel_rfl
  exact calls_of_exec2' (P := Try.prog) (fn := Try.f44) (c := Try.f44.body.getD .skip) (args := [Value.slice p n
    c]) (w := w) (R := R) pur0_ok Try.func44 hb e h

end Go.Proofs.Ytmjanmffnblcoaa
