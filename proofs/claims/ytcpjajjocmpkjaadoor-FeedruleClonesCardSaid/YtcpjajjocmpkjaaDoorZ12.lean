/- The formulas of functions by the symbolic evaluator, and that each gives the call's contract. Written by a program (gen.py). No condition. -/
import Derived.Test.YtcpjajjocmpkjaaDoorProg
import Derived.Test.YtcpjajjocmpkjaaDoorZ02
import Derived.Test.YtcpjajjocmpkjaaDoorZ04
import Derived.KernelRfl
import Derived.Test.YtcpjajjocmpkjaaDoorZ08
import Derived.Test.YtcpjajjocmpkjaaDoorZ11
import Derived.Laws.StructEq
import Derived.Shelf.SlGeneric
import Derived.Shelf.SlSortCmp.NoneTotal
import Derived.Ground.SlsfProg
import Derived.Test.YtcpjajjocmpkjaaDoorZ06
import Derived.SizedLaws
import Derived.Test.YtcpjajjocmpkjaaDoorZ07
namespace Go.Proofs.YtcpjajjocmpkjaaDoor
set_option maxRecDepth 100000
set_option linter.unusedVariables false

def VC_qequal (p : Option Addr) (q : Option Addr) (w : World) (R : Ending → World → Prop) : Prop :=
 bsp (p.isNone || q.isNone) (R (Ending.returned (Value.bool (p.isNone && q.isNone))) w)
 (nn true p fun (b o : Nat) =>
 ∃ (x : Int),
 ∃ (x_1 : Bool),
 ∃ (x_2 : Int),
 ∃ (x_3 : Int),
 AtL w.drew b o [Value.int IntKind.i64 x, Value.bool x_1, Value.int IntKind.i64 x_2, Value.int IntKind.i64 x_3] ∧
 nn true q fun (b o : Nat) =>
 ∃ (x_4 : Int),
 ∃ (x_5 : Bool),
 ∃ (x_6 : Int),
 ∃ (x_7 : Int),
 AtL w.drew b o
 [Value.int IntKind.i64 x_4, Value.bool x_5, Value.int IntKind.i64 x_6, Value.int IntKind.i64 x_7] ∧
 ∃ (r : Bool),
 EqP Tryd.prog 93
 (Value.agg
 #[Value.int IntKind.i64 x, Value.bool x_1, Value.int IntKind.i64 x_2, Value.int IntKind.i64 x_3])
 (Value.agg
 #[Value.int IntKind.i64 x_4, Value.bool x_5, Value.int IntKind.i64 x_6, Value.int IntKind.i64 x_7])
 r ∧
 R (Ending.returned (Value.bool r)) w.drew)
theorem vc_qequal (p : Option Addr) (q : Option Addr) (w : World) (R : Ending → World → Prop) (h : VC_qequal p q w R) : Calls Tryd.prog 29 ([Value.pointer
    p,
  Value.pointer q] : List Value).toArray w R := by
  have e : execR { P := Tryd.prog, loops := [], pur := pur1, tails := [], joins := [], boxes := [] } Tryd.f29.results.toList R (Tryd.f29.body.getD .skip) (initF [Value.pointer
    p,
  Value.pointer
    q] (Tryd.f29.ntmps - ([Value.pointer p,
  Value.pointer q] : List Value).length)) w = VC_qequal p q w R := by kernel_rfl
  have hb : Tryd.f29.body = some (Tryd.f29.body.getD .skip) := by kernel_rfl
  exact calls_of_exec' (P := Tryd.prog) (fn := Tryd.f29) (c := Tryd.f29.body.getD .skip) (args := [Value.pointer p,
  Value.pointer q]) (w := w) (R := R) pur1_ok Tryd.func29 hb e h

end Go.Proofs.YtcpjajjocmpkjaaDoor

/- The contracts of Quota's Clone and Equal, and of nil feeds and quotas. -/
namespace Go.Proofs.YtcpjajjocmpkjaaDoor
open Go.RowKit

theorem qclone_any (b : Nat) (q : Qt) (w : World) (hq : QAt w b q) : Calls Tryd.prog 28 #[.pointer (some ⟨b, 0, none⟩)] w fun e w' =>
    ∃ b', e = .returned (.pointer (some ⟨b', 0, none⟩)) ∧ QAt w' b' q ∧ w.heap.size ≤ b' ∧ K0 w w' := by
  refine vc_qclone (some ⟨b, 0, none⟩) w _ (bsp_intro (fun h => absurd h (by simp)) (fun _ => ?_))
  refine ⟨q.lim, q.ch, q.day, q.used, AtL_block hq rfl, fun n w1 hn => ⟨WrL_block hn.block (by simp), fun w2 hp => ⟨n, rfl, hp.full hn.block rfl, hn.ge, ?_⟩⟩⟩
  exact (hn.kp (fun _ => False)).fresh hp.kp (fun i hi e => by have := hn.ge; omega)
theorem qcloneNil_any (w : World) : Calls Tryd.prog 28 #[.pointer none] w fun e w' => e = .returned (.pointer none) ∧ w' = w :=
  vc_qclone none w _ ⟨rfl, rfl⟩
theorem eqf_cons {P : Program} {w : World} {d : Nat} {xs ys : Array Value} {f : Field} {fs : List Field} (hn : f.name ≠ "_") {a b : Value} (hx : (part f.type xs f.offset).run P w = .ok a w) (hy : (part f.type ys f.offset).run P w = .ok b w) {r s : Bool} (hr : (Op.equalIn d f.type a b).run P w = .ok r w) (hs : (Op.eqFields d xs ys fs).run P w = .ok s w) : (Op.eqFields d xs ys (f :: fs)).run P w = .ok (r && s) w := by
  simp only [Op.eqFields, if_pos hn, Sem.run_bind, hx, hy, hr, Result.andThen_ok]
  cases r with
  | true => simpa using hs
  | false => simp
theorem fieldsOf_of {P : Program} {t : TypeId} {fs : Array Field} (h : P.underlying t = some (.struct fs)) : P.fieldsOf t = fs := by unfold Program.fieldsOf; rw [h]
theorem eqQuota (q o : Qt) : EqP Tryd.prog 93 (.agg #[.int .i64 q.lim, .bool q.ch, .int .i64 q.day, .int .i64 q.used]) (.agg #[.int .i64 o.lim, .bool o.ch, .int .i64 o.day, .int .i64 o.used]) (q.lim == o.lim && (q.ch == o.ch && (q.day == o.day && (q.used == o.used && true)))) := by
  refine ⟨fun w => ?_, by kernel_rfl, _, _, rfl, rfl⟩
  show (Op.equalIn 10000 _ _ _).run _ w = _
  rw [run_equalIn_struct w 9999 93 _ _ (by kernel_rfl) (by kernel_rfl), fieldsOf_of Tryd.underlying93]
  refine eqf_cons (by decide) (by kernel_rfl) (by kernel_rfl) (run_equalIn_int w _ _ .i64 _ _ _ Tryd.underlying3) (eqf_cons (by decide) (by kernel_rfl) (by kernel_rfl) (run_equalIn_bool w _ _ _ _ Tryd.underlying4) (eqf_cons (by decide) (by kernel_rfl) (by kernel_rfl) (run_equalIn_int w _ _ .i64 _ _ _ Tryd.underlying3) (eqf_cons (by decide) (by kernel_rfl) (by kernel_rfl) (run_equalIn_int w _ _ .i64 _ _ _ Tryd.underlying3) rfl)))
theorem qequal_any (b b' : Nat) (q : Qt) (w : World) (h : QAt w b q) (h' : QAt w b' q) : Calls Tryd.prog 29 #[.pointer (some ⟨b, 0, none⟩), .pointer (some ⟨b', 0, none⟩)] w fun e w' => e = .returned (.bool true) ∧ K0 w w' := by
  refine vc_qequal (some ⟨b, 0, none⟩) (some ⟨b', 0, none⟩) w _ (bsp_intro (fun h => absurd h (by simp)) (fun _ => ?_))
  refine ⟨q.lim, q.ch, q.day, q.used, AtL_block (blk_drew h) rfl, ?_⟩
  refine ⟨q.lim, q.ch, q.day, q.used, AtL_block (blk_drew h') rfl, _, eqQuota q q, ?_, (Kp.refl _ _).drew⟩
  simp
theorem qequalNil_any (p : Option Addr) (w : World) : Calls Tryd.prog 29 #[.pointer p, .pointer none] w fun e w' => e = .returned (.bool p.isNone) ∧ w' = w := by
  refine vc_qequal p none w _ (bsp_intro (fun _ => ⟨by simp, rfl⟩) (fun h => absurd h (by simp)))
theorem takeNil_any (n now : Int) (w : World) : Calls Tryd.prog 21 #[.pointer none, .int .i64 n, .int .i64 now] w fun e w' => e = .returned (.int .i64 1) ∧ w' = w := vc_takeNil n now w _ ⟨rfl, rfl⟩
theorem leftNil_any (now : Int) (w : World) : Calls Tryd.prog 22 #[.pointer none, .int .i64 now] w fun e w' => e = .returned (.int .i64 0) ∧ w' = w := vc_leftNil now w _ ⟨rfl, rfl⟩
theorem fruleNil_any (w : World) : Calls Tryd.prog 25 #[.pointer none] w fun e w' => e = .returned (.agg #[.string ⟨#[]⟩, .string ⟨#[]⟩, .int .i64 0, .int .i64 0, .slice none 0 0]) ∧ K0 w w' := by
  refine vc_fruleNil w _ ?_
  intro n w1 hn
  refine ⟨WrL_block hn.block (by simp), fun w2 hp => ?_⟩
  have := hp.full hn.block rfl
  exact ⟨_, _, _, _, _, _, _, AtL_block this rfl, rfl, (hn.kp (fun _ => False)).fresh hp.kp (fun i hi e => by have := hn.ge; omega)⟩
theorem dueNil_any (x : It) (p : Option Addr) (c : Nat) (w : World) : Calls Tryd.prog 16 #[.pointer none, .agg (x.cells p c)] w fun e w' => e = .returned (.tuple #[.int .i64 0, .bool false]) ∧ K0 w w' := by
  refine vc_due none (x.cells p c) w _ ?_
  intro n w1 hn
  refine ⟨x.id, p, x.gs.length, c, x.d, x.by_, x.ct, x.fr, x.ar, AtL_block hn.block rfl, ⟨(reasonNil_any (x.cells p c) w1).mono fun e w2 ⟨he, hk⟩ => ⟨_, he, bsp_intro (fun _ => ⟨rfl, (hn.kp _).trans hk⟩) (fun h => absurd h (by decide))⟩⟩⟩

end Go.Proofs.YtcpjajjocmpkjaaDoor

/-
  DERIVED: THE SHELF's CONTRACTS AT THIS DUMP, IN PLAIN WORDS (tools/lay-plain.mjs out of 'TrydShelf.lean', which tools/lay-shelf.mjs wrote): THE SAME DECLARATIONS UNDER THE SAME NAMES: 'import', 'namespace', 'open', 'def', 'theorem' AND NOTHING ELSE: no command of the shelf's: FOR A HAND-IN. Each laying: the table of numbers ('.._ren') and one theorem, a field a fact of the dump's own or the kernel's comparison; each contract: ONE APPLICATION.
-/
namespace Go.Proofs
open Go.Shelf
def Tryd.laysSlF06_f48_ren : Go.Shelf.Ren := ⟨fun | 6 => 48 | 15 => 64 | 14 => 63 | 28 => 84 | 29 => 85 | 20 => 76 | 21 => 77 | 22 => 78 | 23 => 79 | 24 => 80 | 25 => 81 | 26 => 82 | 27 => 83 | 46 => 96 | 47 => 97 | 48 => 98 | 49 => 99 | 50 => 100 | 57 => 106 | n => n, fun | 22 => 99 | 24 => 101 | 25 => 106 | 3 => 3 | 39 => 131 | 0 => 0 | 53 => 163 | 55 => 165 | 4 => 4 | 46 => 157 | 45 => 156 | 50 => 43 | 5 => 5 | 9 => 9 | 66 => 177 | 70 => 181 | 76 => 187 | 77 => 82 | n => n, fun | n => n⟩
theorem Tryd.laysSlF06_f48 : Go.Proofs.SlLaysF0.n6 Tryd.prog Tryd.laysSlF06_f48_ren := {
  mixed := by kernel_rfl
  f6 := ⟨Tryd.f48.name, by decide, Tryd.func48.trans (congrArg some (by kernel_rfl))⟩
  f14 := ⟨Tryd.f63.name, by decide, Tryd.func63.trans (congrArg some (by kernel_rfl))⟩
  f15 := Tryd.func64.trans (congrArg some (by kernel_rfl))
  f20 := ⟨Tryd.f76.name, by decide, Tryd.func76.trans (congrArg some (by kernel_rfl))⟩
  f21 := ⟨Tryd.f77.name, by decide, Tryd.func77.trans (congrArg some (by kernel_rfl))⟩
  f22 := ⟨Tryd.f78.name, by decide, Tryd.func78.trans (congrArg some (by kernel_rfl))⟩
  f23 := ⟨Tryd.f79.name, by decide, Tryd.func79.trans (congrArg some (by kernel_rfl))⟩
  f24 := ⟨Tryd.f80.name, by decide, Tryd.func80.trans (congrArg some (by kernel_rfl))⟩
  f25 := ⟨Tryd.f81.name, by decide, Tryd.func81.trans (congrArg some (by kernel_rfl))⟩
  f26 := ⟨Tryd.f82.name, by decide, Tryd.func82.trans (congrArg some (by kernel_rfl))⟩
  f27 := ⟨Tryd.f83.name, by decide, Tryd.func83.trans (congrArg some (by kernel_rfl))⟩
  f28 := Tryd.func84.trans (congrArg some (by kernel_rfl))
  f29 := Tryd.func85.trans (congrArg some (by kernel_rfl))
  f46 := ⟨Tryd.f96.name, by decide, Tryd.func96.trans (congrArg some (by kernel_rfl))⟩
  f47 := Tryd.func97.trans (congrArg some (by kernel_rfl))
  f48 := Tryd.func98.trans (congrArg some (by kernel_rfl))
  f49 := ⟨Tryd.f99.name, by decide, Tryd.func99.trans (congrArg some (by kernel_rfl))⟩
  f50 := ⟨Tryd.f100.name, by decide, Tryd.func100.trans (congrArg some (by kernel_rfl))⟩
  f57 := ⟨Tryd.f106.name, by decide, Tryd.func106.trans (congrArg some (by kernel_rfl))⟩
  t0 := Tryd.underlying0
  a0 := Tryd.isAgg0
  z0 := Tryd.sizeOf0
  v0 := Tryd.zeroValue0
  t3 := Tryd.underlying3
  a3 := Tryd.isAgg3
  z3 := Tryd.sizeOf3
  v3 := Tryd.zeroValue3
  t4 := Tryd.underlying4
  a4 := Tryd.isAgg4
  z4 := Tryd.sizeOf4
  v4 := Tryd.zeroValue4
  t5 := Tryd.underlying5
  a5 := Tryd.isAgg5
  z5 := Tryd.sizeOf5
  v5 := Tryd.zeroValue5
  t9 := Tryd.underlying9
  a9 := Tryd.isAgg9
  z9 := Tryd.sizeOf9
  v9 := Tryd.zeroValue9
  t22 := Tryd.underlying99
  a22 := Tryd.isAgg99
  z22 := Tryd.sizeOf99
  v22 := Tryd.zeroValue99
  t25 := Tryd.underlying106
  a25 := Tryd.isAgg106
  z25 := Tryd.sizeOf106
  v25 := Tryd.zeroValue106
  t39 := Tryd.underlying131
  a39 := Tryd.isAgg131
  z39 := Tryd.sizeOf131
  v39 := Tryd.zeroValue131
  t45 := Tryd.underlying156
  a45 := Tryd.isAgg156
  z45 := Tryd.sizeOf156
  v45 := Tryd.zeroValue156
  t46 := Tryd.underlying157
  a46 := Tryd.isAgg157
  z46 := Tryd.sizeOf157
  v46 := Tryd.zeroValue157
  t50 := Tryd.underlying43
  a50 := Tryd.isAgg43
  z50 := Tryd.sizeOf43
  v50 := Tryd.zeroValue43
  t53 := Tryd.underlying163
  a53 := Tryd.isAgg163
  z53 := Tryd.sizeOf163
  v53 := Tryd.zeroValue163
  t55 := Tryd.underlying165
  a55 := Tryd.isAgg165
  z55 := Tryd.sizeOf165
  v55 := Tryd.zeroValue165
  t66 := Tryd.underlying177
  a66 := Tryd.isAgg177
  z66 := Tryd.sizeOf177
  v66 := Tryd.zeroValue177
  t70 := Tryd.underlying181
  a70 := Tryd.isAgg181
  z70 := Tryd.sizeOf181
  v70 := Tryd.zeroValue181
  t76 := Tryd.underlying187
  a76 := Tryd.isAgg187
  z76 := Tryd.sizeOf187
  v76 := Tryd.zeroValue187
  t77 := Tryd.underlying82
  a77 := Tryd.isAgg82
  z77 := Tryd.sizeOf82
  v77 := Tryd.zeroValue82 }
open Go.RowKit Go.Lib in
/-- slices.SortFunc at no element. -/
theorem Tryd.slices_SortFunc_none (p : Option Addr) (cap : Nat) (fv : Value) (w : World) :
    Calls Tryd.prog 48 #[.slice p 0 cap, fv] w fun e w' => e = .returned (.tuple #[]) ∧ w' = w := AnyF.slices_SortFunc_none Tryd.laysSlF06_f48 p cap fv w
end Go.Proofs

/- The formulas of functions by the symbolic evaluator, and that each gives the call's contract. Written by a program (gen.py). No condition. -/
namespace Go.Proofs.YtcpjajjocmpkjaaDoor
set_option maxRecDepth 100000
set_option linter.unusedVariables false

def VC_select (q : Option Addr) (p : Option Addr) (n : Nat) (c : Nat) (now : Int) (w : World) (R : Ending → World → Prop) : Prop :=
 ∃ (I : List Value → World → Prop),
 ∃ (m : List Value → World → Nat),
 I [Value.int IntKind.i64 0, Value.slice none 0 0] w ∧
 ∀ (x : Int) (p_1 : Option Addr) (n_1 c : Nat) (w' : World),
 I [Value.int IntKind.i64 x, Value.slice p_1 n_1 c] w' →
 bsp (decide (x < (↑n : Int)))
 (nn true p fun (b o : Nat) =>
 (0 ≤ x ∧ x < (↑n : Int)) ∧
 ∃ (f : Nat → Int),
 ∃ (p : Option Addr),
 ∃ (n : Nat),
 ∃ (c_1 : Nat),
 ∃ (x_1 : ByteArray),
 ∃ (x_2 : Int),
 ∃ (x_3 : Bool),
 ∃ (x_4 : ByteArray),
 ∃ (x_5 : Int),
 AtL w' b (o + x.toNat * 38)
 (arrI IntKind.u8 f 32 0 ++ [Value.slice p n c_1, Value.string x_1,
 Value.int IntKind.i64 x_2, Value.bool x_3, Value.string x_4, Value.int IntKind.i64 x_5]) ∧
 ∀ (n_2 : Nat) (w1 : World),
 NewB w'
 (Obj.cells
 #[Value.int IntKind.u8 0, Value.int IntKind.u8 0, Value.int IntKind.u8 0, Value.int IntKind.u8 0,
 Value.int IntKind.u8 0, Value.int IntKind.u8 0, Value.int IntKind.u8 0, Value.int IntKind.u8 0,
 Value.int IntKind.u8 0, Value.int IntKind.u8 0, Value.int IntKind.u8 0, Value.int IntKind.u8 0,
 Value.int IntKind.u8 0, Value.int IntKind.u8 0, Value.int IntKind.u8 0, Value.int IntKind.u8 0,
 Value.int IntKind.u8 0, Value.int IntKind.u8 0, Value.int IntKind.u8 0, Value.int IntKind.u8 0,
 Value.int IntKind.u8 0, Value.int IntKind.u8 0, Value.int IntKind.u8 0, Value.int IntKind.u8 0,
 Value.int IntKind.u8 0, Value.int IntKind.u8 0, Value.int IntKind.u8 0, Value.int IntKind.u8 0,
 Value.int IntKind.u8 0, Value.int IntKind.u8 0, Value.int IntKind.u8 0, Value.int IntKind.u8 0,
 Value.slice none 0 0, Value.string (ByteArray.mk #[]), Value.int IntKind.i64 0, Value.bool false,
 Value.string (ByteArray.mk #[]), Value.int IntKind.i64 0]
 39)
 n_2 w1 →
 WrL w1 n_2 0 38 ∧
 ∀ (w1_1 : World),
 PutB w1 n_2 0
 (arrI IntKind.u8 f 32 0 ++ [Value.slice p n c_1,
 Value.string x_1, Value.int IntKind.i64 x_2, Value.bool x_3, Value.string x_4,
 Value.int IntKind.i64 x_5])
 w1_1 →
 ∃ (f : Nat → Int),
 ∃ (p : Option Addr),
 ∃ (n : Nat),
 ∃ (c_2 : Nat),
 ∃ (x_6 : ByteArray),
 ∃ (x_7 : Int),
 ∃ (x_8 : Bool),
 ∃ (x_9 : ByteArray),
 ∃ (x_10 : Int),
 AtL w1_1 n_2 0
 (arrI IntKind.u8 f 32 0 ++ [Value.slice p n c_2,
 Value.string x_6, Value.int IntKind.i64 x_7, Value.bool x_8, Value.string x_9,
 Value.int IntKind.i64 x_10]) ∧
 CallsS Tryd.prog 16
 #[Value.pointer q,
 Value.agg
 (arrI IntKind.u8 f 32 0 ++ [Value.slice p n c_2,
 Value.string x_6, Value.int IntKind.i64 x_7, Value.bool x_8, Value.string x_9,
 Value.int IntKind.i64 x_10]).toArray]
 w1_1 fun (e : Ending) (w'_1 : World) =>
 ∃ (x_11 : Int),
 ∃ (x_12 : Bool),
 e = Ending.returned (Value.tuple #[Value.int IntKind.i64 x_11, Value.bool x_12]) ∧
 bsp (x_12 && decide (x_11 ≤ now))
 (∃ (f : Nat → Int),
 AtL w'_1 n_2 0
 (arrI IntKind.u8 f 32 0) ∧
 ∀ (n : Nat) (w1 : World),
 NewB w'_1
 (Obj.cells
 ([Value.int IntKind.i64 x_11] ++ arrI IntKind.u8 f 32 0).toArray
 101)
 n w1 →
 ∃ (base : Nat),
 ∃ (xs : List Value),
 ∃ (news : List Value),
 w1.ownsRow base 101 33 (Value.slice p_1 n_1 c) n_1 xs ∧
 news.length = 33 ∧
 SrcP w1 (some (Addr.mk n 0 none)) news ∧
 n_1 + 1 ≤ 9223372036854775807 ∧
 (n_1 + 1) * 40 ≤ 140737488355328 ∧
 base ≤ w1.heap.size ∧
 ∀ (p' : Option Addr) (c' : Nat) (w'_2 : World),
 w'_2.ownsRow base 101 33 (Value.slice p' (n_1 + 1) c') (n_1 + 1)
 (xs ++ news) →
 w1.grownBy w'_2 (Value.slice p_1 n_1 c).ownBlock →
 I
 [Value.int IntKind.i64 (IntKind.i64.wrap (x + 1)),
 Value.slice p' (n_1 + 1) c']
 w'_2 ∧
 m
 [Value.int IntKind.i64 (IntKind.i64.wrap (x + 1)),
 Value.slice p' (n_1 + 1) c']
 w'_2 <
 m [Value.int IntKind.i64 x, Value.slice p_1 n_1 c] w')
 (I [Value.int IntKind.i64 (IntKind.i64.wrap (x + 1)), Value.slice p_1 n_1 c]
 w'_1 ∧
 m [Value.int IntKind.i64 (IntKind.i64.wrap (x + 1)), Value.slice p_1 n_1 c]
 w'_1 <
 m [Value.int IntKind.i64 x, Value.slice p_1 n_1 c] w'))
 (CallsS Tryd.prog 48 #[Value.slice p_1 n_1 c, Value.func (Fn.func 49) #[] #[]] w' fun (e : Ending) (w' : World) =>
 e = Ending.returned (Value.tuple #[]) ∧
 ∀ (n : Nat) (w1 : World),
 NewB w' (Obj.map #[] 0) n w1 →
 ∃ (I : List Value → World → Prop),
 ∃ (m : List Value → World → Nat),
 I [Value.int IntKind.i64 0, Value.slice none 0 0] w1 ∧
 ∀ (x : Int) (p : Option Addr) (n_2 c : Nat) (w' : World),
 I [Value.int IntKind.i64 x, Value.slice p n_2 c] w' →
 bsp (decide (x < (↑n_1 : Int)))
 (nn true p_1 fun (b o : Nat) =>
 (0 ≤ x ∧ x < (↑n_1 : Int)) ∧
 ∃ (x_1 : Int),
 ∃ (f : Nat → Int),
 AtL w' b (o + x.toNat * 33)
 ([Value.int IntKind.i64 x_1] ++ arrI IntKind.u8 f 32 0) ∧
 ∀ (n_3 : Nat) (w1 : World),
 NewB w'
 (Obj.cells
 #[Value.int IntKind.i64 0, Value.int IntKind.u8 0, Value.int IntKind.u8 0,
 Value.int IntKind.u8 0, Value.int IntKind.u8 0, Value.int IntKind.u8 0,
 Value.int IntKind.u8 0, Value.int IntKind.u8 0, Value.int IntKind.u8 0,
 Value.int IntKind.u8 0, Value.int IntKind.u8 0, Value.int IntKind.u8 0,
 Value.int IntKind.u8 0, Value.int IntKind.u8 0, Value.int IntKind.u8 0,
 Value.int IntKind.u8 0, Value.int IntKind.u8 0, Value.int IntKind.u8 0,
 Value.int IntKind.u8 0, Value.int IntKind.u8 0, Value.int IntKind.u8 0,
 Value.int IntKind.u8 0, Value.int IntKind.u8 0, Value.int IntKind.u8 0,
 Value.int IntKind.u8 0, Value.int IntKind.u8 0, Value.int IntKind.u8 0,
 Value.int IntKind.u8 0, Value.int IntKind.u8 0, Value.int IntKind.u8 0,
 Value.int IntKind.u8 0, Value.int IntKind.u8 0, Value.int IntKind.u8 0]
 101)
 n_3 w1 →
 WrL w1 n_3 0 33 ∧
 ∀ (w1_1 : World),
 PutB w1 n_3 0
 ([Value.int IntKind.i64 x_1] ++ arrI IntKind.u8 f 32 0)
 w1_1 →
 ∃ (f : Nat → Int),
 AtL w1_1 n_3 (0 + 1)
 (arrI IntKind.u8 f 32 0) ∧
 ∃ (x_2 : Bool),
 LookP Tryd.prog 107 (Value.map (some n))
 (Value.agg
 (arrI IntKind.u8 f 32 0).toArray)
 false (Value.bool x_2) w1_1 ∧
 bsp (!x_2)
 (∃ (f : Nat → Int),
 AtL w1_1 n_3 (0 + 1)
 (arrI IntKind.u8 f 32 0) ∧
 ∃ (w1 : World),
 UpdP Tryd.prog 107 (Value.map (some n))
 (Value.agg
 (arrI IntKind.u8 f 32 0).toArray)
 (Value.bool true) w1_1 w1 ∧
 ∃ (f : Nat → Int),
 AtL w1 n_3 (0 + 1)
 (arrI IntKind.u8 f 32 0) ∧
 ∀ (n : Nat) (w1_2 : World),
 NewB w1
 (Obj.cells
 (arrI IntKind.u8 f 32 0).toArray
 37)
 n w1_2 →
 ∃ (base : Nat),
 ∃ (xs : List Value),
 ∃ (news : List Value),
 w1_2.ownsRow base 37 32 (Value.slice p n_2 c) n_2 xs ∧
 news.length = 32 ∧
 SrcP w1_2 (some (Addr.mk n 0 none)) news ∧
 n_2 + 1 ≤ 9223372036854775807 ∧
 (n_2 + 1) * 32 ≤ 140737488355328 ∧
 base ≤ w1_2.heap.size ∧
 ∀ (p' : Option Addr) (c' : Nat) (w'_1 : World),
 w'_1.ownsRow base 37 32 (Value.slice p' (n_2 + 1) c') (n_2 + 1)
 (xs ++ news) →
 w1_2.grownBy w'_1 (Value.slice p n_2 c).ownBlock →
 I
 [Value.int IntKind.i64 (IntKind.i64.wrap (x + 1)),
 Value.slice p' (n_2 + 1) c']
 w'_1 ∧
 m
 [Value.int IntKind.i64 (IntKind.i64.wrap (x + 1)),
 Value.slice p' (n_2 + 1) c']
 w'_1 <
 m [Value.int IntKind.i64 x, Value.slice p n_2 c] w')
 (I [Value.int IntKind.i64 (IntKind.i64.wrap (x + 1)), Value.slice p n_2 c] w1_1 ∧
 m [Value.int IntKind.i64 (IntKind.i64.wrap (x + 1)), Value.slice p n_2 c] w1_1 <
 m [Value.int IntKind.i64 x, Value.slice p n_2 c] w'))
 (R (Ending.returned (Value.slice p n_2 c)) w'))
theorem vc_select (q : Option Addr) (p : Option Addr) (n : Nat) (c : Nat) (now : Int) (w : World) (R : Ending → World → Prop) (h : VC_select q p n c now w R) : Calls Tryd.prog 27 ([Value.pointer
    q,
  Value.slice p n c, Value.int IntKind.i64 now] : List Value).toArray w R := by
  have e : execR { P := Tryd.prog, loops := [(3, [(18, Ck.int IntKind.i64), (7, Ck.slice)]), (13, [(47, Ck.int IntKind.i64), (12, Ck.slice)])], pur := pur1, tails := [], joins := [], boxes := [] } Tryd.f27.results.toList R (Tryd.f27.body.getD .skip) (initF [Value.pointer
    q,
  Value.slice p n c,
  Value.int IntKind.i64
    now] (Tryd.f27.ntmps - ([Value.pointer q, Value.slice p n c,
  Value.int IntKind.i64 now] : List Value).length)) w = VC_select q p n c now w R := by kernel_rfl
  have hb : Tryd.f27.body = some (Tryd.f27.body.getD .skip) := by kernel_rfl
  exact calls_of_exec' (P := Tryd.prog) (fn := Tryd.f27) (c := Tryd.f27.body.getD .skip) (args := [Value.pointer q,
  Value.slice p n c, Value.int IntKind.i64 now]) (w := w) (R := R) pur1_ok Tryd.func27 hb e h

def VC_scmp (a : Array Value) (b : Array Value) (w : World) (R : Ending → World → Prop) : Prop :=
 ∀ (n : Nat) (w1 : World),
 NewB w (Obj.cells a 101) n w1 →
 ∀ (n_1 : Nat) (w1_1 : World),
 NewB w1 (Obj.cells b 101) n_1 w1_1 →
 ∃ (S : World → Prop),
 S w1_1.drew ∧
 ∃ (x : Int),
 (∀ (w' : World), S w' → w'.cell? (Addr.mk n 0 none) = some (Value.int IntKind.i64 x)) ∧
 ∃ (x_1 : Int),
 (∀ (w' : World), S w' → w'.cell? (Addr.mk n_1 0 none) = some (Value.int IntKind.i64 x_1)) ∧
 ∃ (f : Nat → Int),
 (∀ (w' : World),
 S w' →
 AtL w' n (0 + 1)
 (arrI IntKind.u8 f 32 0)) ∧
 ∃ (f_1 : Nat → Int),
 (∀ (w' : World),
 S w' →
 AtL w' n_1 (0 + 1)
 (arrI IntKind.u8 f_1 32 0)) ∧
 CallsS Tryd.prog 51 #[Value.int IntKind.i64 x, Value.int IntKind.i64 x_1] w1_1.drew
 fun (e : Ending) (w' : World) =>
 ∃ (x : Int),
 e = Ending.returned (Value.int IntKind.i64 x) ∧
 S w' ∧
 CallsS Tryd.prog 52
 #[Value.agg
 (arrI IntKind.u8 f 32 0).toArray,
 Value.agg
 (arrI IntKind.u8 f_1 32 0).toArray]
 w' fun (e : Ending) (w' : World) =>
 ∃ (x_2 : Int),
 e = Ending.returned (Value.int IntKind.i64 x_2) ∧
 ∀ (n : Nat) (w1 : World),
 NewB w' (Obj.cells #[Value.int IntKind.i64 x, Value.int IntKind.i64 x_2] 3) n w1 →
 CallsS Tryd.prog 50 #[Value.slice (some (Addr.mk n 0 none)) 2 2] w1
 fun (e : Ending) (w' : World) =>
 ∃ (x : Int),
 e = Ending.returned (Value.int IntKind.i64 x) ∧
 R (Ending.returned (Value.int IntKind.i64 x)) w'
theorem vc_scmp (a : Array Value) (b : Array Value) (w : World) (R : Ending → World → Prop) (h : VC_scmp a b w R) : Calls Tryd.prog 49 ([Value.agg
    a,
  Value.agg b] : List Value).toArray w R := by
  have e : execR { P := Tryd.prog, loops := [], pur := pur1, tails := [(1, 4)], joins := [], boxes := [] } Tryd.f49.results.toList R (Tryd.f49.body.getD .skip) (initF [Value.agg
    a,
  Value.agg b] (Tryd.f49.ntmps - ([Value.agg a, Value.agg b] : List Value).length)) w = VC_scmp a b w R := by kernel_rfl
  have hb : Tryd.f49.body = some (Tryd.f49.body.getD .skip) := by kernel_rfl
  exact calls_of_exec' (P := Tryd.prog) (fn := Tryd.f49) (c := Tryd.f49.body.getD .skip) (args := [Value.agg a,
  Value.agg b]) (w := w) (R := R) pur1_ok Tryd.func49 hb e h

def VC_cmpOr (p : Option Addr) (n : Nat) (c : Nat) (w : World) (R : Ending → World → Prop) : Prop :=
 ∃ (I : List Value → World → Prop),
 ∃ (m : List Value → World → Nat),
 I [Value.int IntKind.i64 0] w ∧
 ∀ (x : Int) (w' : World),
 I [Value.int IntKind.i64 x] w' →
 bsp (decide (x < (↑n : Int)))
 (nn true p fun (b o : Nat) =>
 (0 ≤ x ∧ x < (↑n : Int)) ∧
 ∃ (x_1 : Int),
 w'.cell? (Addr.mk b (o + x.toNat) none) = some (Value.int IntKind.i64 x_1) ∧
 bsp (x_1 != 0) (R (Ending.returned (Value.int IntKind.i64 x_1)) w')
 (I [Value.int IntKind.i64 (IntKind.i64.wrap (x + 1))] w' ∧
 m [Value.int IntKind.i64 (IntKind.i64.wrap (x + 1))] w' < m [Value.int IntKind.i64 x] w'))
 (R (Ending.returned (Value.int IntKind.i64 0)) w')
theorem vc_cmpOr (p : Option Addr) (n : Nat) (c : Nat) (w : World) (R : Ending → World → Prop) (h : VC_cmpOr p n c w R) : Calls Tryd.prog 50 ([Value.slice
    p n c] : List Value).toArray w R := by
  have e : execR { P := Tryd.prog, loops := [(3, [(8, Ck.int IntKind.i64)])], pur := pur1, tails := [], joins := [], boxes := [] } Tryd.f50.results.toList R (Tryd.f50.body.getD .skip) (initF [Value.slice
    p n c] (Tryd.f50.ntmps - ([Value.slice p n c] : List Value).length)) w = VC_cmpOr p n c w R := by kernel_rfl
  have hb : Tryd.f50.body = some (Tryd.f50.body.getD .skip) := by kernel_rfl
  exact calls_of_exec' (P := Tryd.prog) (fn := Tryd.f50) (c := Tryd.f50.body.getD .skip) (args := [Value.slice p n
    c]) (w := w) (R := R) pur1_ok Tryd.func50 hb e h

def VC_cmpI (a : Int) (b : Int) (w : World) (R : Ending → World → Prop) : Prop :=
 CallsS Tryd.prog 65 #[Value.int IntKind.i64 a] w fun (e : Ending) (w' : World) =>
 ∃ (x : Bool),
 e = Ending.returned (Value.bool x) ∧
 CallsS Tryd.prog 65 #[Value.int IntKind.i64 b] w' fun (e : Ending) (w' : World) =>
 ∃ (x_1 : Bool),
 e = Ending.returned (Value.bool x_1) ∧
 bsp x
 (bsp x_1 (R (Ending.returned (Value.int IntKind.i64 0)) w')
 (R (Ending.returned (Value.int IntKind.i64 (-1))) w'))
 (bsp x_1 (R (Ending.returned (Value.int IntKind.i64 1)) w')
 (bsp (decide (a < b)) (R (Ending.returned (Value.int IntKind.i64 (-1))) w')
 (bsp (decide (a > b)) (R (Ending.returned (Value.int IntKind.i64 1)) w')
 (R (Ending.returned (Value.int IntKind.i64 0)) w'))))
theorem vc_cmpI (a : Int) (b : Int) (w : World) (R : Ending → World → Prop) (h : VC_cmpI a b w R) : Calls Tryd.prog 51 ([Value.int
    IntKind.i64 a,
  Value.int IntKind.i64 b] : List Value).toArray w R := by
  have e : execR { P := Tryd.prog, loops := [], pur := pur1, tails := [], joins := [], boxes := [] } Tryd.f51.results.toList R (Tryd.f51.body.getD .skip) (initF [Value.int
    IntKind.i64 a,
  Value.int IntKind.i64
    b] (Tryd.f51.ntmps - ([Value.int IntKind.i64 a,
  Value.int IntKind.i64 b] : List Value).length)) w = VC_cmpI a b w R := by kernel_rfl
  have hb : Tryd.f51.body = some (Tryd.f51.body.getD .skip) := by kernel_rfl
  exact calls_of_exec' (P := Tryd.prog) (fn := Tryd.f51) (c := Tryd.f51.body.getD .skip) (args := [Value.int IntKind.i64
    a,
  Value.int IntKind.i64 b]) (w := w) (R := R) pur1_ok Tryd.func51 hb e h

end Go.Proofs.YtcpjajjocmpkjaaDoor

/- The formulas of functions by the symbolic evaluator, and that each gives the call's contract. Written by a program (gen.py). No condition. -/
namespace Go.Proofs.YtcpjajjocmpkjaaDoor
set_option maxRecDepth 100000
set_option linter.unusedVariables false

def VC_clones (lim : Int) (p : Option Addr) (n : Nat) (c : Nat) (mn : Int) (mw : Int) (a : Array Value) (w : World) (R : Ending → World → Prop) : Prop :=
 ∀ (n_1 : Nat) (w1 : World),
 NewB w (Obj.cells #[Value.int IntKind.i64 mn, Value.int IntKind.i64 mw] 56) n_1 w1 →
 ∀ (n_2 : Nat) (w1_1 : World),
 NewB w1 (Obj.cells a 27) n_2 w1_1 →
 CallsS Tryd.prog 19 #[Value.int IntKind.i64 lim] w1_1 fun (e : Ending) (w' : World) =>
 ∃ (x : Option Addr),
 ∃ (x_1 : Int),
 e = Ending.returned (Value.tuple #[Value.pointer x, Value.int IntKind.i64 x_1]) ∧
 CallsS Tryd.prog 12 #[] w' fun (e : Ending) (w' : World) =>
 ∃ (x_2 : Bool),
 e = Ending.returned (Value.bool x_2) ∧
 bsp (!x_2 || x_1 != 0)
 (CallsS Tryd.prog 12 #[] w' fun (e : Ending) (w' : World) =>
 ∃ (x : Bool), e = Ending.returned (Value.bool x) ∧ R (Ending.returned (Value.bool x)) w')
 (∃ (I : List Value → World → Prop),
 ∃ (m : List Value → World → Nat),
 I [Value.int IntKind.i64 0] w' ∧
 ∀ (x_3 : Int) (w' : World),
 I [Value.int IntKind.i64 x_3] w' →
 bsp (decide (x_3 < (↑n : Int)) && decide (x_3 < 60))
 (nn true p fun (b o : Nat) =>
 (0 ≤ x_3 ∧ x_3 < (↑n : Int)) ∧
 ∃ (x_4 : Int),
 w'.drew.cell? (Addr.mk b (o + x_3.toNat * 2) none) = some (Value.int IntKind.i64 x_4) ∧
 nn true p fun (b o : Nat) =>
 (0 ≤ x_3 ∧ x_3 < (↑n : Int)) ∧
 ∃ (x_5 : Int),
 w'.drew.cell? (Addr.mk b (o + x_3.toNat * 2 + 1) none) = some (Value.int IntKind.i64 x_5) ∧
 CallsS Tryd.prog 21 #[Value.pointer x, Value.int IntKind.i64 x_4, Value.int IntKind.i64 x_5]
 w'.drew fun (e : Ending) (w'_1 : World) =>
 ∃ (x : Int),
 e = Ending.returned (Value.int IntKind.i64 x) ∧
 I [Value.int IntKind.i64 (IntKind.i64.wrap (x_3 + 1))] w'_1 ∧
 m [Value.int IntKind.i64 (IntKind.i64.wrap (x_3 + 1))] w'_1 <
 m [Value.int IntKind.i64 x_3] w')
 (CallsS Tryd.prog 28 #[Value.pointer x] w' fun (e : Ending) (w' : World) =>
 ∃ (x_4 : Option Addr),
 e = Ending.returned (Value.pointer x_4) ∧
 ∃ (x_5 : Int),
 w'.cell? (Addr.mk n_1 (0 + 1) none) = some (Value.int IntKind.i64 x_5) ∧
 CallsS Tryd.prog 22 #[Value.pointer x, Value.int IntKind.i64 x_5] w'
 fun (e : Ending) (w' : World) =>
 ∃ (x_6 : Int),
 e = Ending.returned (Value.int IntKind.i64 x_6) ∧
 bsp (!x_4.isNone)
 (CallsS Tryd.prog 29 #[Value.pointer x_4, Value.pointer x] w'
 fun (e : Ending) (w' : World) =>
 ∃ (x_7 : Bool),
 e = Ending.returned (Value.bool x_7) ∧
 bsp (false || !x_7) (R (Ending.returned (Value.bool false)) w')
 (∃ (J : List Value → World → Prop),
 (∃ (x_8 : Int),
 w'.cell? (Addr.mk n_1 0 none) = some (Value.int IntKind.i64 x_8) ∧
 ∃ (x_9 : Int),
 w'.cell? (Addr.mk n_1 (0 + 1) none) = some (Value.int IntKind.i64 x_9) ∧
 CallsS Tryd.prog 21
 #[Value.pointer x_4, Value.int IntKind.i64 x_8, Value.int IntKind.i64 x_9] w'
 fun (e : Ending) (w' : World) =>
 ∃ (x_10 : Int),
 e = Ending.returned (Value.int IntKind.i64 x_10) ∧
 bsp (x_10 != 0)
 (CallsS Tryd.prog 29 #[Value.pointer x_4, Value.pointer x] w'
 fun (e : Ending) (w' : World) =>
 ∃ (x_11 : Bool),
 e = Ending.returned (Value.bool x_11) ∧
 ∃ (x_12 : Int),
 gimp (!(true && !x_11))
 (w'.cell? (Addr.mk n_1 (0 + 1) none) =
 some (Value.int IntKind.i64 x_12)) ∧
 bsp (!(true && !x_11))
 (CallsS Tryd.prog 22 #[Value.pointer x, Value.int IntKind.i64 x_12] w'
 fun (e : Ending) (w' : World) =>
 ∃ (x : Int),
 e = Ending.returned (Value.int IntKind.i64 x) ∧
 bsp (false || x != x_6) (R (Ending.returned (Value.bool false)) w')
 (J [] w'))
 (R (Ending.returned (Value.bool false)) w'))
 (∃ (x_11 : Int),
 w'.cell? (Addr.mk n_1 (0 + 1) none) = some (Value.int IntKind.i64 x_11) ∧
 CallsS Tryd.prog 22 #[Value.pointer x, Value.int IntKind.i64 x_11] w'
 fun (e : Ending) (w' : World) =>
 ∃ (x : Int),
 e = Ending.returned (Value.int IntKind.i64 x) ∧
 bsp (false || x != x_6) (R (Ending.returned (Value.bool false)) w')
 (J [] w'))) ∧
 ∀ (w' : World),
 J [] w' →
 ∃ (f : Nat → Int),
 ∃ (p : Option Addr),
 ∃ (n : Nat),
 ∃ (c : Nat),
 ∃ (x_8 : ByteArray),
 ∃ (x_9 : Int),
 ∃ (x_10 : Bool),
 ∃ (x_11 : ByteArray),
 ∃ (x_12 : Int),
 AtL w' n_2 0
 (arrI IntKind.u8 f 32 0 ++ [Value.slice p n c, Value.string x_8, Value.int IntKind.i64 x_9,
 Value.bool x_10, Value.string x_11, Value.int IntKind.i64 x_12]) ∧
 CallsS Tryd.prog 14
 #[Value.agg
 (arrI IntKind.u8 f 32 0 ++ [Value.slice p n c, Value.string x_8, Value.int IntKind.i64 x_9,
 Value.bool x_10, Value.string x_11, Value.int IntKind.i64 x_12]).toArray]
 w' fun (e : Ending) (w' : World) =>
 ∃ (f : Nat → Int),
 ∃ (p : Option Addr),
 ∃ (n : Nat),
 ∃ (c : Nat),
 ∃ (x_13 : ByteArray),
 ∃ (x_14 : Int),
 ∃ (x_15 : Bool),
 ∃ (x_16 : ByteArray),
 ∃ (x_17 : Int),
 ∃ (f_1 : Nat → Int),
 ∃ (p_1 : Option Addr),
 ∃ (n_3 : Nat),
 ∃ (c_1 : Nat),
 ∃ (x_18 : ByteArray),
 ∃ (x_19 : Int),
 ∃ (x_20 : Bool),
 ∃ (x_21 : ByteArray),
 ∃ (x_22 : Int),
 e =
 Ending.returned
 (Value.tuple
 #[Value.agg
 (arrI IntKind.u8 f 32 0 ++ [Value.slice p n c,
 Value.string x_13, Value.int IntKind.i64 x_14,
 Value.bool x_15, Value.string x_16,
 Value.int IntKind.i64 x_17]).toArray,
 Value.agg
 (arrI IntKind.u8 f_1 32 0 ++ [Value.slice p_1 n_3 c_1, Value.string x_18,
 Value.int IntKind.i64 x_19, Value.bool x_20,
 Value.string x_21,
 Value.int IntKind.i64 x_22]).toArray]) ∧
 ∀ (n_4 : Nat) (w1 : World),
 NewB w'
 (Obj.cells
 #[Value.int IntKind.u8 0, Value.int IntKind.u8 0,
 Value.int IntKind.u8 0, Value.int IntKind.u8 0,
 Value.int IntKind.u8 0, Value.int IntKind.u8 0,
 Value.int IntKind.u8 0, Value.int IntKind.u8 0,
 Value.int IntKind.u8 0, Value.int IntKind.u8 0,
 Value.int IntKind.u8 0, Value.int IntKind.u8 0,
 Value.int IntKind.u8 0, Value.int IntKind.u8 0,
 Value.int IntKind.u8 0, Value.int IntKind.u8 0,
 Value.int IntKind.u8 0, Value.int IntKind.u8 0,
 Value.int IntKind.u8 0, Value.int IntKind.u8 0,
 Value.int IntKind.u8 0, Value.int IntKind.u8 0,
 Value.int IntKind.u8 0, Value.int IntKind.u8 0,
 Value.int IntKind.u8 0, Value.int IntKind.u8 0,
 Value.int IntKind.u8 0, Value.int IntKind.u8 0,
 Value.int IntKind.u8 0, Value.int IntKind.u8 0,
 Value.int IntKind.u8 0, Value.int IntKind.u8 0,
 Value.slice none 0 0,
 Value.string (ByteArray.mk #[]),
 Value.int IntKind.i64 0, Value.bool false,
 Value.string (ByteArray.mk #[]),
 Value.int IntKind.i64 0]
 39)
 n_4 w1 →
 ∀ (n_5 : Nat) (w1_2 : World),
 NewB w1
 (Obj.cells
 #[Value.int IntKind.u8 0, Value.int IntKind.u8 0,
 Value.int IntKind.u8 0, Value.int IntKind.u8 0,
 Value.int IntKind.u8 0, Value.int IntKind.u8 0,
 Value.int IntKind.u8 0, Value.int IntKind.u8 0,
 Value.int IntKind.u8 0, Value.int IntKind.u8 0,
 Value.int IntKind.u8 0, Value.int IntKind.u8 0,
 Value.int IntKind.u8 0, Value.int IntKind.u8 0,
 Value.int IntKind.u8 0, Value.int IntKind.u8 0,
 Value.int IntKind.u8 0, Value.int IntKind.u8 0,
 Value.int IntKind.u8 0, Value.int IntKind.u8 0,
 Value.int IntKind.u8 0, Value.int IntKind.u8 0,
 Value.int IntKind.u8 0, Value.int IntKind.u8 0,
 Value.int IntKind.u8 0, Value.int IntKind.u8 0,
 Value.int IntKind.u8 0, Value.int IntKind.u8 0,
 Value.int IntKind.u8 0, Value.int IntKind.u8 0,
 Value.int IntKind.u8 0, Value.int IntKind.u8 0,
 Value.slice none 0 0,
 Value.string (ByteArray.mk #[]),
 Value.int IntKind.i64 0, Value.bool false,
 Value.string (ByteArray.mk #[]),
 Value.int IntKind.i64 0]
 27)
 n_5 w1_2 →
 WrL w1_2 n_4 0 38 ∧
 ∀ (w1 : World),
 PutB w1_2 n_4 0
 (arrI IntKind.u8 f 32 0 ++ [Value.slice p n c, Value.string x_13,
 Value.int IntKind.i64 x_14, Value.bool x_15,
 Value.string x_16, Value.int IntKind.i64 x_17])
 w1 →
 WrL w1 n_5 0 38 ∧
 ∀ (w1_3 : World),
 PutB w1 n_5 0
 (arrI IntKind.u8 f_1 32 0 ++ [Value.slice p_1 n_3 c_1, Value.string x_18,
 Value.int IntKind.i64 x_19,
 Value.bool x_20, Value.string x_21,
 Value.int IntKind.i64 x_22])
 w1_3 →
 ∃ (f : Nat → Int),
 ∃ (p : Option Addr),
 ∃ (n : Nat),
 ∃ (c : Nat),
 ∃ (x_23 : ByteArray),
 ∃ (x_24 : Int),
 ∃ (x_25 : Bool),
 ∃ (x_26 : ByteArray),
 ∃ (x_27 : Int),
 AtL w1_3 n_4 0
 (arrI IntKind.u8 f 32 0 ++ [Value.slice p n c,
 Value.string x_23,
 Value.int IntKind.i64 x_24,
 Value.bool x_25,
 Value.string x_26,
 Value.int IntKind.i64 x_27]) ∧
 CallsS Tryd.prog 16
 #[Value.pointer none,
 Value.agg
 (arrI IntKind.u8 f 32 0 ++ [Value.slice p n c,
 Value.string x_23,
 Value.int IntKind.i64 x_24,
 Value.bool x_25,
 Value.string x_26,
 Value.int IntKind.i64 x_27]).toArray]
 w1_3
 fun (e : Ending) (w' : World) =>
 ∃ (x_28 : Int),
 ∃ (x_29 : Bool),
 e =
 Ending.returned
 (Value.tuple
 #[Value.int IntKind.i64
 x_28,
 Value.bool x_29]) ∧
 CallsS Tryd.prog 25
 #[Value.pointer none] w'
 fun (e : Ending)
 (w' : World) =>
 ∃ (x_30 : ByteArray),
 ∃ (x_31 : ByteArray),
 ∃ (x_32 : Int),
 ∃ (x_33 : Int),
 ∃ (p : Option Addr),
 ∃ (n : Nat),
 ∃ (c : Nat),
 e =
 Ending.returned
 (Value.agg
 #[Value.string
 x_30,
 Value.string x_31,
 Value.int
 IntKind.i64 x_32,
 Value.int
 IntKind.i64 x_33,
 Value.slice p n
 c]) ∧
 ∃ (f : Nat → Int),
 ∃ (p : Option Addr),
 ∃ (n : Nat),
 ∃ (c : Nat),
 ∃ (x_34 :
 ByteArray),
 ∃ (x_35 : Int),
 ∃ (x_36 : Bool),
 ∃ (x_37 :
 ByteArray),
 ∃ (x_38 :
 Int),
 gimp
 (x_30.toList ==
 [])
 (AtL w' n_4
 0
 (arrI IntKind.u8 f 32 0 ++ [Value.slice
 p n c,
 Value.string
 x_34,
 Value.int
 IntKind.i64
 x_35,
 Value.bool
 x_36,
 Value.string
 x_37,
 Value.int
 IntKind.i64
 x_38])) ∧
 bsp
 (x_30.toList ==
 [])
 (CallsS
 Tryd.prog
 17
 #[Value.pointer
 none,
 Value.agg
 (arrI IntKind.u8 f 32 0 ++ [Value.slice
 p n c,
 Value.string
 x_34,
 Value.int
 IntKind.i64
 x_35,
 Value.bool
 x_36,
 Value.string
 x_37,
 Value.int
 IntKind.i64
 x_38]).toArray]
 w'
 fun
 (e :
 Ending)
 (w' :
 World) =>
 ∃ (x_39 :
 Int),
 e =
 Ending.returned
 (Value.int
 IntKind.i64
 x_39) ∧
 ∃ (f :
 Nat →
 Int),
 ∃ (p :
 Option
 Addr),
 ∃ (n :
 Nat),
 ∃ (c
 :
 Nat),
 ∃
 (x_40
 :
 ByteArray),
 ∃
 (x_41
 :
 Int),
 ∃
 (x_42
 :
 Bool),
 ∃
 (x_43
 :
 ByteArray),
 ∃
 (x_44
 :
 Int),
 gimp
 (true &&
 x_39 ==
 1 &&
 x_28 ==
 0 &&
 !x_29)
 (AtL
 w'
 n_4
 0
 (arrI IntKind.u8 f 32 0 ++ [Value.slice
 p
 n
 c,
 Value.string
 x_40,
 Value.int
 IntKind.i64
 x_41,
 Value.bool
 x_42,
 Value.string
 x_43,
 Value.int
 IntKind.i64
 x_44])) ∧
 bsp
 (true &&
 x_39 ==
 1 &&
 x_28 ==
 0 &&
 !x_29)
 (∀
 (n_6 :
 Nat)
 (w1 :
 World),
 NewB
 w'
 (Obj.cells
 (arrI IntKind.u8 f 32 0 ++ [Value.slice
 p
 n
 c,
 Value.string
 x_40,
 Value.int
 IntKind.i64
 x_41,
 Value.bool
 x_42,
 Value.string
 x_43,
 Value.int
 IntKind.i64
 x_44]).toArray
 39)
 n_6
 w1 →
 ∃
 (x_45
 :
 Int),
 w1.cell?
 (Addr.mk
 n_1
 (0 +
 1)
 none) =
 some
 (Value.int
 IntKind.i64
 x_45) ∧
 CallsS
 Tryd.prog
 27
 #[Value.pointer
 none,
 Value.slice
 (some
 (Addr.mk
 n_6
 0
 none))
 1
 1,
 Value.int
 IntKind.i64
 x_45]
 w1
 fun
 (e :
 Ending)
 (w' :
 World) =>
 ∃
 (p
 :
 Option
 Addr),
 ∃
 (n
 :
 Nat),
 ∃
 (c
 :
 Nat),
 e =
 Ending.returned
 (Value.slice
 p
 n
 c) ∧
 bsp
 (true &&
 (↑n :
 Int) ==
 0)
 (CallsS
 Tryd.prog
 21
 #[Value.pointer
 none,
 Value.int
 IntKind.i64
 1,
 Value.int
 IntKind.i64
 1]
 w'
 fun
 (e :
 Ending)
 (w' :
 World) =>
 ∃
 (x_46
 :
 Int),
 e =
 Ending.returned
 (Value.int
 IntKind.i64
 x_46) ∧
 bsp
 (true &&
 x_46 ==
 1)
 (CallsS
 Tryd.prog
 22
 #[Value.pointer
 none,
 Value.int
 IntKind.i64
 1]
 w'
 fun
 (e :
 Ending)
 (w' :
 World) =>
 ∃
 (x_47
 :
 Int),
 e =
 Ending.returned
 (Value.int
 IntKind.i64
 x_47) ∧
 bsp
 (true &&
 x_47 ==
 0)
 (CallsS
 Tryd.prog
 28
 #[Value.pointer
 none]
 w'
 fun
 (e :
 Ending)
 (w' :
 World) =>
 ∃
 (x_48
 :
 Option
 Addr),
 e =
 Ending.returned
 (Value.pointer
 x_48) ∧
 bsp
 (true &&
 x_48.isNone)
 (CallsS
 Tryd.prog
 29
 #[Value.pointer
 none,
 Value.pointer
 none]
 w'
 fun
 (e :
 Ending)
 (w' :
 World) =>
 ∃
 (x_49
 :
 Bool),
 e =
 Ending.returned
 (Value.bool
 x_49) ∧
 bsp
 (true &&
 x_49)
 (CallsS
 Tryd.prog
 29
 #[Value.pointer
 x,
 Value.pointer
 none]
 w'
 fun
 (e :
 Ending)
 (w' :
 World) =>
 ∃
 (x
 :
 Bool),
 e =
 Ending.returned
 (Value.bool
 x) ∧
 R
 (Ending.returned
 (Value.bool
 (true &&
 !x)))
 w')
 (R
 (Ending.returned
 (Value.bool
 false))
 w'))
 (R
 (Ending.returned
 (Value.bool
 false))
 w'))
 (R
 (Ending.returned
 (Value.bool
 false))
 w'))
 (R
 (Ending.returned
 (Value.bool
 false))
 w'))
 (R
 (Ending.returned
 (Value.bool
 false))
 w'))
 (R
 (Ending.returned
 (Value.bool
 false))
 w'))
 (∃ (f :
 Nat →
 Int),
 ∃ (p :
 Option
 Addr),
 ∃ (n :
 Nat),
 ∃ (c :
 Nat),
 ∃ (x :
 ByteArray),
 ∃ (x :
 Int),
 ∃ (x
 :
 Bool),
 ∃ (x
 :
 ByteArray),
 ∃
 (x
 :
 Int),
 True ∧
 R
 (Ending.returned
 (Value.bool
 false))
 w')))
 (R (Ending.returned (Value.bool false)) w')))
theorem vc_clones (lim : Int) (p : Option Addr) (n : Nat) (c : Nat) (mn : Int) (mw : Int) (a : Array Value) (w : World) (R : Ending → World → Prop) (h : VC_clones lim p n c mn mw a w R) : Calls Tryd.prog 9 ([Value.int
    IntKind.i64 lim,
  Value.slice p n c, Value.agg #[Value.int IntKind.i64 mn, Value.int IntKind.i64 mw],
  Value.agg a] : List Value).toArray w R := by
  have e : execR { P := Tryd.prog, loops := [(5, [(11, Ck.int IntKind.i64)])], pur := pur1, tails := [(7, 11)], joins := [(14, [])], boxes := [] } Tryd.f9.results.toList R (Tryd.f9.body.getD .skip) (initF [Value.int
    IntKind.i64 lim,
  Value.slice p n c, Value.agg #[Value.int IntKind.i64 mn, Value.int IntKind.i64 mw],
  Value.agg
    a] (Tryd.f9.ntmps - ([Value.int IntKind.i64 lim, Value.slice p n c,
  Value.agg #[Value.int IntKind.i64 mn, Value.int IntKind.i64 mw],
  Value.agg a] : List Value).length)) w = VC_clones lim p n c mn mw a w R := by kernel_rfl
  have hb : Tryd.f9.body = some (Tryd.f9.body.getD .skip) := by kernel_rfl
  exact calls_of_exec' (P := Tryd.prog) (fn := Tryd.f9) (c := Tryd.f9.body.getD .skip) (args := [Value.int IntKind.i64
    lim,
  Value.slice p n c, Value.agg #[Value.int IntKind.i64 mn, Value.int IntKind.i64 mw],
  Value.agg a]) (w := w) (R := R) pur1_ok Tryd.func9 hb e h

end Go.Proofs.YtcpjajjocmpkjaaDoor

/- The statement FeedruleClones on worlds: it returns true and leaves what was there as it was. -/
namespace Go.Proofs.YtcpjajjocmpkjaaDoor
open Go.RowKit

/-- Select of a nil feed, at one item. -/
theorem selectNil_any (x : It) (p : Option Addr) (c b cs : Nat) (now : Int) (w : World) (hb : w.heap[b]? = some (.cells (x.cells p c) 39 (0, 0))) : Calls Tryd.prog 27 #[.pointer none, .slice (some ⟨b, 0, none⟩) 1 cs, .int .i64 now] w fun e w' => e = .returned (.slice none 0 0) ∧ K0 w w' := by
  refine vc_select none (some ⟨b, 0, none⟩) 1 cs now w _ ?_
  refine ⟨fun vs w' => ∃ k : Nat, vs = [.int .i64 k, .slice none 0 0] ∧ k ≤ 1 ∧ K0 w w', fun vs _ => (match vs with | .int _ x :: _ => 1 - x.toNat | _ => 0), ⟨0, rfl, by omega, .refl _ _⟩, ?_⟩
  rintro i p1 n1 c1 w1 ⟨k, hv, hk, k1⟩
  simp only [List.cons.injEq, Value.int.injEq, Value.slice.injEq, true_and, and_true] at hv
  obtain ⟨rfl, rfl, rfl, rfl⟩ := hv
  refine bsp_intro (fun hlt => ?_) (fun hge => ?_)
  · have hlt : k = 0 := by simp at hlt; omega
    subst hlt
    show (0 ≤ ((0 : Nat) : Int) ∧ ((0 : Nat) : Int) < ((1 : Nat) : Int)) ∧ _
    have hb1 := k1.blk hb (fun h => h)
    refine ⟨by omega, x.id, p, x.gs.length, c, x.d, x.by_, x.ct, x.fr, x.ar, AtL_block hb1 rfl, fun n2 w2 hn2 => ⟨WrL_block hn2.block (by simp), fun w3 hp3 => ?_⟩⟩
    have b3 : w3.heap[n2]? = some (.cells (x.cells p c) 39 (0, 0)) := hp3.full hn2.block rfl
    have k3 : K0 w w3 := (k1.trans (hn2.kp _)).fresh hp3.kp (fun i hi e => by have := hn2.ge; have := k1.size; omega)
    refine ⟨x.id, p, x.gs.length, c, x.d, x.by_, x.ct, x.fr, x.ar, AtL_block b3 rfl, ⟨(dueNil_any x p c w3).mono fun e w4 ⟨he, hk4⟩ => ⟨_, _, he, bsp_intro (fun h => absurd h (by simp)) (fun _ => ?_)⟩⟩⟩
    rw [show IntKind.i64.wrap (((0 : Nat) : Int) + 1) = ((1 : Nat) : Int) from rfl]
    exact ⟨⟨1, rfl, by omega, k3.trans hk4⟩, by simp⟩
  · refine ⟨(Tryd.slices_SortFunc_none none 0 _ w1).mono fun e w2 ⟨he, hw⟩ => ⟨he, fun n w3 hn3 => ?_⟩⟩
    subst hw
    refine ⟨fun vs w' => vs = [.int .i64 0, .slice none 0 0] ∧ K0 w w', fun _ _ => 0, ⟨rfl, k1.trans (hn3.kp _)⟩, ?_⟩
    rintro i p1 n1 c1 w4 ⟨hv, k4⟩
    simp only [List.cons.injEq, Value.int.injEq, Value.slice.injEq, true_and, and_true] at hv
    obtain ⟨rfl, rfl, rfl, rfl⟩ := hv
    exact bsp_intro (fun h => absurd h (by simp)) (fun _ => ⟨rfl, k4⟩)

theorem take_same {q : Qt} {x y : Int} (hne : (takeS q x y).1 ≠ 0) : (takeS q x y).2 = q := by
  unfold takeS at hne ⊢
  repeat' split
  all_goals first | rfl | (exfalso; apply hne; simp_all)

set_option maxHeartbeats 2000000 in
theorem clones_any (lim : Int) (p : Option Addr) (n c : Nat) (mn mw : Int) (x : It) (q : Option Addr) (cx : Nat) (w : World) (hG : GW w) (hch : ChP w p n) (hg : StrP w q x.gs) (hc : x.gs.length ≤ cx) :
    Calls Tryd.prog 9 #[.int .i64 lim, .slice p n c, .agg #[.int .i64 mn, .int .i64 mw], .agg (x.cells q cx)] w fun e w' => e = .returned (.bool true) ∧ K0 w w' := by
  refine vc_clones lim p n c mn mw (x.cells q cx) w _ ?_
  intro n1 wa hn1 n2 w0 hn2
  have k0 : K0 w w0 := (hn1.kp _).trans (hn2.kp _)
  have b1 := (hn2.kp (fun _ => False)).blk hn1.block (fun h => h)
  have b2 := hn2.block
  have g1 : w.heap.size ≤ n1 := hn1.ge
  clear hn1 hn2
  refine ⟨(newQuota_any lim w0).mono fun e w1 he => ?_⟩
  rcases he with ⟨hbad, he, rfl⟩ | ⟨hgood, qb, he, hq, hk1, hqb⟩
  · refine ⟨_, _, he, ⟨(known_any w1 (hG.kp k0 (fun h => h))).mono fun e w2 ⟨he, hk2⟩ => ⟨_, he, bsp_intro (fun _ => ?_) (fun h => ?_)⟩⟩⟩
    · exact ⟨(known_any w2 (hG.kp (k0.trans hk2) (fun h => h))).mono fun e w3 ⟨he, hk3⟩ => ⟨_, he, rfl, (k0.trans hk2).trans hk3⟩⟩
    · exfalso; simp at h
  have hlim : 0 ≤ lim ∧ lim ≤ 1099511627776 := by omega
  refine ⟨_, _, he, ⟨(known_any w1 (hG.kp (k0.trans hk1) (fun h => h))).mono fun e w2 ⟨he, hk2⟩ => ⟨_, he, bsp_intro (fun h => absurd h (by simp)) (fun _ => ?_)⟩⟩⟩
  have k2 : K0 w0 w2 := hk1.trans hk2
  have hq2 := hk2.blk hq (fun h => h)
  have c1 : ∀ wx, Kp (· = qb) w2 wx → wx.heap[n1]? = some (.cells #[.int .i64 mn, .int .i64 mw] 56 (0, 0)) := fun wx hx => hx.blk (k2.blk b1 (fun h => h)) (fun e => by have := block_lt b1; omega)
  refine count1 (min n 60) (by omega) (fun k w' => Kp (· = qb) w2 w' ∧ ∃ q l d u, QAt w' qb q ∧ RelQ q l d u) ⟨.refl _ _, _, lim, 0, 0, hq2, rfl, hlim.1, hlim.2, by decide, by decide, by decide, (fun h => by cases h), fun _ => ⟨rfl, rfl, rfl⟩, fun _ => rfl⟩ ?_
  rintro I m k w3 hk ⟨hk3, qt, l, d, u, hq3, hrel⟩ next
  have k3 : K0 w0 w3 := k2.fresh hk3 (fun i hi e => by omega)
  refine bsp_intro (fun hlt => ?_) (fun _ => ?_)
  · have hlt' : k < min n 60 := by simp at hlt; omega
    have hlt : k < n := by omega
    obtain ⟨b, o, vx, vy, rfl, d1, d2⟩ := hch.kp (k0.trans k3) (fun _ _ _ h => h) k hlt
    rw [Int.toNat_natCast]
    show (0 ≤ (k : Int) ∧ (k : Int) < (n : Int)) ∧ _
    refine ⟨by omega, vx, d1, ?_⟩
    show (0 ≤ (k : Int) ∧ (k : Int) < (n : Int)) ∧ _
    refine ⟨by omega, vy, d2, ⟨(take_any qb vx vy qt w3.drew hq3 hrel.used).mono fun e w4 ⟨he, hq4, hk4⟩ => ⟨_, he, next hlt' w4 ⟨hk3.drew.trans hk4, _, _, _, _, hq4, hrel.take.2⟩⟩⟩⟩
  have hb1 := c1 w3 hk3
  have hll : 0 ≤ qt.lim ∧ qt.lim ≤ 1099511627776 := by rw [hrel.1]; exact ⟨hrel.2.1, hrel.2.2.1⟩
  have b23 := k3.blk b2 (fun h => h)
  have kk3 : K0 w w3 := k0.trans k3
  clear next hk3 k3
  refine ⟨(qclone_any qb qt w3 hq3).mono fun e w4 ⟨cb, he, hc4, hcb, hk4⟩ => ⟨_, he, ?_⟩⟩
  refine ⟨mw, cell_at (hk4.blk hb1 (fun h => h)) rfl, ⟨(left_any qb mw qt w4 (hk4.blk hq3 (fun h => h)) hrel.used hll).mono fun e w5 ⟨he, hw5⟩ => ⟨_, he, bsp_intro (fun _ => ?_) (fun h => absurd h (by simp))⟩⟩⟩
  have hk5 : K0 w4 w5 := by
    rcases hw5 with rfl | rfl
    · exact .refl _ _
    · exact (Kp.refl _ _).drew
  have k35 := hk4.trans hk5
  refine ⟨(qequal_any cb qb qt w5 (hk5.blk hc4 (fun h => h)) (k35.blk hq3 (fun h => h))).mono fun e w6 ⟨he, hk6⟩ => ⟨_, he, bsp_intro (fun h => absurd h (by simp)) (fun _ => ?_)⟩⟩
  have k36 := k35.trans hk6
  have b16 := k36.blk hb1 (fun h => h)
  have q6 : QAt w6 qb qt := k36.blk hq3 (fun h => h)
  have c6 : QAt w6 cb qt := (hk5.trans hk6).blk hc4 (fun h => h)
  have lq : qb < w3.heap.size := block_lt hq3
  have l1 : n1 < w3.heap.size := block_lt hb1
  refine ⟨fun vs w' => vs = [] ∧ K0 w3 w', ?_, ?_⟩
  · refine ⟨mn, cell_at b16 rfl, mw, cell_at b16 rfl, ⟨(take_any cb mn mw qt w6 c6 hrel.used).mono fun e w7 ⟨he, hc7, hk7⟩ => ⟨_, he, ?_⟩⟩⟩
    have k37 : K0 w3 w7 := k36.fresh hk7 (fun i hi e => by omega)
    have q7 : QAt w7 qb qt := k37.blk hq3 (fun h => h)
    have b17 := k37.blk hb1 (fun h => h)
    have fin : ∀ w8, K0 w3 w8 → CallsS Tryd.prog 22 #[.pointer (some ⟨qb, 0, none⟩), .int .i64 mw] w8 fun e w9 => ∃ v : Int, e = .returned (.int .i64 v) ∧ bsp (false || v != leftS qt mw) (Ending.returned (.bool false) = .returned (.bool true) ∧ K0 w w9) (([] : List Value) = [] ∧ K0 w3 w9) := fun w8 k38 =>
      ⟨(left_any qb mw qt w8 (k38.blk hq3 (fun h => h)) hrel.used hll).mono fun e w9 ⟨he, hw9⟩ => ⟨_, he, bsp_intro (fun h => absurd h (by simp)) (fun _ => ⟨rfl, by
        rcases hw9 with rfl | rfl
        · exact k38
        · exact k38.drew⟩)⟩⟩
    refine bsp_intro (fun hne => ?_) (fun _ => ⟨mw, cell_at b17 rfl, fin w7 k37⟩)
    have hne : (takeS qt mn mw).1 ≠ 0 := by simpa using hne
    rw [take_same hne] at hc7
    refine ⟨(qequal_any cb qb qt w7 hc7 q7).mono fun e w8 ⟨he, hk8⟩ => ⟨_, he, mw, gimp_intro fun _ => cell_at (hk8.blk b17 (fun h => h)) rfl, bsp_intro (fun _ => fin w8 (k37.trans hk8)) (fun h => absurd h (by simp))⟩⟩
  rintro w7 ⟨-, k37⟩
  have kk7 : K0 w w7 := kk3.trans k37
  refine ⟨x.id, q, x.gs.length, cx, x.d, x.by_, x.ct, x.fr, x.ar, AtL_block (k37.blk b23 (fun h => h)) rfl, ⟨(item_any x q cx w7 (hg.kp kk7 (fun _ _ _ h => h)) hc).mono fun e w8 he => ?_⟩⟩
  obtain ⟨q1, q2, d1, d2, he, hr1, hr2, hk8⟩ := he
  refine ⟨_, _, _, _, _, _, _, _, _, _, _, _, _, _, _, _, _, _, he, fun n4 w9 hn9 n5 w10 hn10 => ?_⟩
  have ga : w8.heap.size ≤ n4 := hn9.ge
  have gb : n4 < n5 := by have := hn9.size; have := hn10.ge; omega
  have b4a := (hn10.kp (fun _ => False)).blk hn9.block (fun h => h)
  refine ⟨WrL_block b4a (by simp), fun w11 hp11 => ?_⟩
  have b4b : w11.heap[n4]? = some (.cells (x.cut.cells q1 d1) 39 (0, 0)) := hp11.full b4a rfl
  have b5b := hp11.kp.blk hn10.block (fun e => by omega)
  refine ⟨WrL_block b5b (by simp), fun w12 hp12 => ?_⟩
  have b4c := hp12.kp.blk b4b (fun e => by omega)
  have k812 : K0 w8 w12 := (((hn9.kp (fun _ => False)).trans (hn10.kp _)).fresh hp11.kp (fun i hi e => by omega)).fresh hp12.kp (fun i hi e => by omega)
  have k712 : K0 w7 w12 := hk8.trans k812
  clear hn9 hn10 b4a hp11 b4b b5b hp12
  refine ⟨x.cut.id, q1, x.cut.gs.length, d1, x.cut.d, x.cut.by_, x.cut.ct, x.cut.fr, x.cut.ar, AtL_block b4c rfl, ⟨(dueNil_any x.cut q1 d1 w12).mono fun e w13 ⟨he, hk13⟩ => ⟨_, _, he, ?_⟩⟩⟩
  refine ⟨(fruleNil_any w13).mono fun e w14 ⟨he, hk14⟩ => ⟨_, _, _, _, _, _, _, he, x.cut.id, q1, x.cut.gs.length, d1, x.cut.d, x.cut.by_, x.cut.ct, x.cut.fr, x.cut.ar, gimp_intro fun _ => AtL_block ((hk13.trans hk14).blk b4c (fun h => h)) rfl, ?_⟩⟩
  have e0 : ((⟨#[]⟩ : ByteArray).toList == []) = true := by rw [toList_nil]; rfl
  rw [e0]
  have k1214 := hk13.trans hk14
  refine bsp_intro (fun _ => ?_) (fun h => absurd h (by decide))
  refine ⟨(reasonNil_any (x.cut.cells q1 d1) w14).mono fun e w15 ⟨he, hk15⟩ => ⟨_, he, x.cut.id, q1, x.cut.gs.length, d1, x.cut.d, x.cut.by_, x.cut.ct, x.cut.fr, x.cut.ar, gimp_intro fun _ => AtL_block ((k1214.trans hk15).blk b4c (fun h => h)) rfl, bsp_intro (fun _ => fun n6 w16 hn16 => ?_) (fun h => absurd h (by decide))⟩⟩
  have k1216 := (k1214.trans hk15).trans (hn16.kp _)
  have k316 : K0 w3 w16 := k37.trans (k712.trans k1216)
  refine ⟨mw, cell_at (k316.blk hb1 (fun h => h)) rfl, ⟨(selectNil_any x.cut q1 d1 n6 1 mw w16 hn16.block).mono fun e w17 ⟨he, hk17⟩ => ⟨_, _, _, he, bsp_intro (fun _ => ?_) (fun h => absurd h (by decide))⟩⟩⟩
  have kk17 : K0 w w17 := (kk3.trans k316).trans hk17
  refine ⟨(takeNil_any 1 1 w17).mono fun e w18 ⟨he, hw⟩ => ⟨_, he, bsp_intro (fun _ => ?_) (fun h => absurd h (by decide))⟩⟩
  subst hw
  refine ⟨(leftNil_any 1 w18).mono fun e w19 ⟨he, hw⟩ => ⟨_, he, bsp_intro (fun _ => ?_) (fun h => absurd h (by decide))⟩⟩
  subst hw
  refine ⟨(qcloneNil_any w19).mono fun e w20 ⟨he, hw⟩ => ⟨_, he, bsp_intro (fun _ => ?_) (fun h => absurd h (by decide))⟩⟩
  subst hw
  refine ⟨(qequalNil_any none w20).mono fun e w21 ⟨he, hw⟩ => ⟨_, he, bsp_intro (fun _ => ?_) (fun h => absurd h (by decide))⟩⟩
  subst hw
  refine ⟨(qequalNil_any (some ⟨qb, 0, none⟩) w21).mono fun e w22 ⟨he, hw⟩ => ⟨_, he, ?_, by rw [hw]; exact kk17⟩⟩
  rfl

end Go.Proofs.YtcpjajjocmpkjaaDoor

/- What an argument that was read gives, with its size: strings and slices have at most 2^47 - 4096 bytes. Generic. No condition. -/
namespace Go.Proofs.YtcpjajjocmpkjaaDoor
open Go.ChangeShapes Go.WideShapes Go.ChangeAt Go.RowKit Go.Deep

theorem weightsAll_mem {H : Type} {P : Program} {e : TypeId} : ∀ {l : List (DataW H)} {d : DataW H}, d ∈ l → ∀ n ∈ d.weights P e, n ∈ DataW.weightsAll P e l
  | y :: l, d, hd, n, hn => by
    simp only [DataW.weightsAll, List.mem_append]
    rcases List.mem_cons.1 hd with rfl | h
    · exact .inl hn
    · exact .inr (weightsAll_mem h n hn)
/-- Cells that were read as a value of a type; no part is too great. -/
def Rw {H : Type} (enc : TypeId × Value → H) (P : Program) (W : World) (t : TypeId) (cs : List Value) : Prop := ∃ (fuel : Nat) (x : DataW H × List MemPlace), DataW.trod enc P W 0 (fun _ => true) true fuel t cs = some x ∧ ∀ n ∈ x.1.weights P t, n ≤ reachBytes
section
variable {H : Type} {enc : TypeId × Value → H} {P : Program} {W : World} {t : TypeId} {cs : List Value}
theorem Rw.rd (h : Rw enc P W t cs) : Rd enc P W t cs := by obtain ⟨f, x, h, _⟩ := h; exact ⟨f, x, h⟩
theorem Rw.of {v : Value} {d : DataW H} {ps : List MemPlace} {ts : List TypeId} {ds : List (DataW H)} (h : DataW.Trod enc P W 0 (fun _ => true) true t v d ps) (hz : (DataW.weightsEach P ts ds).all (· ≤ reachBytes) = true) (j : Nat) (ht : ts[j]? = some t) (hd : ds[j]? = some d) : Rw enc P W t v.cells.toList := by
  obtain ⟨fuel, h⟩ := h
  exact ⟨fuel, _, h, fun n hn => by simpa using List.all_eq_true.1 hz _ (DataW.weights_mem_each ht hd n hn)⟩
theorem Rw.field {fs : Array Field} (h : Rw enc P W t cs) (ht : P.underlying t = some (.struct fs)) {i : Nat} {f : Field} (hf : fs[i]? = some f) : Rw enc P W f.type ((cs.drop f.offset).take (P.cellsOf f.type)) := by
  obtain ⟨fuel, x, h, hw⟩ := h
  obtain ⟨xs, n, _, rfl, _, hl, hg⟩ := DataW.trod_struct ht h
  have hi : i < xs.length := by rw [hl]; exact (Array.getElem?_eq_some_iff.1 hf).1
  refine ⟨n, xs[i], by rw [hg i f hf, List.getElem?_eq_getElem hi], fun m hm => hw m ?_⟩
  simp only [DataW.weights, ht]
  refine DataW.weights_mem_each (j := i) (t := f.type) (d := xs[i].1) ?_ ?_ m hm
  · rw [List.getElem?_map, Array.getElem?_toList, hf]; rfl
  · rw [List.getElem?_map, List.getElem?_eq_getElem hi]; rfl
theorem Rw.int64 (h : Rw enc P W t cs) (ht : P.underlying t = some (.int .i64)) : ∃ n : Int, cs = [.int .i64 n] ∧ -9223372036854775808 ≤ n ∧ n ≤ 9223372036854775807 := by
  obtain ⟨n, h1, h2⟩ := h.rd.int ht
  have : IntKind.i64.min ≤ n ∧ n ≤ IntKind.i64.max := by simpa [Lit.wf] using h2
  exact ⟨n, h1, this⟩
theorem Rw.int8 (h : Rw enc P W t cs) (ht : P.underlying t = some (.int .u8)) : ∃ n : Int, cs = [.int .u8 n] ∧ 0 ≤ n ∧ n ≤ 255 := by
  obtain ⟨n, h1, h2⟩ := h.rd.int ht
  have : IntKind.u8.min ≤ n ∧ n ≤ IntKind.u8.max := by simpa [Lit.wf] using h2
  exact ⟨n, h1, this⟩
theorem Rw.bool (h : Rw enc P W t cs) (ht : P.underlying t = some .bool) : ∃ b, cs = [.bool b] := h.rd.bool ht
theorem Rw.str (h : Rw enc P W t cs) (ht : P.underlying t = some .string) : ∃ s : ByteArray, cs = [.string s] ∧ s.size ≤ 140737488351232 := by
  obtain ⟨fuel, x, h, hw⟩ := h
  obtain ⟨s, h1, rfl, _⟩ := DataW.trod_string ht h
  refine ⟨s, h1, ?_⟩
  have := hw s.data.toList.length (by simp [DataW.weights])
  simpa [reachBytes] using this
/-- A slice that was read: its elements. -/
theorem Rw.slice {e : TypeId} (h : Rw enc P W t cs) (ht : P.underlying t = some (.slice e)) (hp : 0 < P.cellsOf e) : ∃ (p : Option Addr) (n c : Nat), cs = [.slice p n c] ∧ n ≤ c ∧ c * P.bytesOf e ≤ 140737488351232 ∧ c ≤ 9223372036854775807 ∧
    ∀ i, i < n → ∃ (b o : Nat) (cs' : List Value), p = some ⟨b, o, none⟩ ∧ cs'.length = P.cellsOf e ∧ (∀ j v, cs'[j]? = some v → W.cell? ⟨b, o + i * P.cellsOf e + j, none⟩ = some v) ∧ Rw enc P W e cs' := by
  obtain ⟨fuel, x, h, hw⟩ := h
  rcases open_slice ht h with ⟨h0, _⟩ | ⟨a, len, cap, m, nn, D, Pl, hcs, hb, hl, hm, hmm, rfl, hi⟩
  · exact ⟨none, 0, 0, h0, by omega, by omega, by omega, fun i hi => by omega⟩
  · have hmc : m = cap := by rw [hmm]; rfl
    have hwt := hw ((len + (m - len)) * P.bytesOf e) (by simp [DataW.weights, ht])
    rw [hmc, show len + (cap - len) = cap by omega] at hwt
    refine ⟨some a, len, cap, hcs, hl, by simpa [reachBytes] using hwt, by unfold maxLen at hm; omega, fun i hilt => ?_⟩
    obtain ⟨cs', hc, ht'⟩ := hi i (by omega)
    obtain ⟨_, hlen, hat⟩ := World.cells?_some hc
    have hspot : a.spot = none := by
      obtain ⟨cs0, hc0, _⟩ := hi 0 (by omega)
      obtain ⟨_, hl0, ha0⟩ := World.cells?_some hc0
      have h00 := ha0 0 hp
      rw [List.getElem?_eq_getElem (by omega)] at h00
      have := World.cell?_spot h00
      simpa [Addr.add] using this
    obtain ⟨b, o, sp⟩ := a
    simp only at hspot
    subst hspot
    refine ⟨b, o, cs', rfl, hlen, fun j v hj => ?_, nn, _, ht', fun k hk => hw k ?_⟩
    · have hjl : j < P.cellsOf e := by have := (List.getElem?_eq_some_iff.1 hj).1; omega
      have := hat j hjl
      rw [addr_add2, hj] at this
      exact this
    · simp only [DataW.weights, ht, List.mem_cons, List.mem_append]
      exact .inr (.inl (weightsAll_mem (List.mem_map.2 ⟨i, List.mem_range.2 hilt, rfl⟩) k hk))
/-- A slice of strings that was read. -/
theorem Rw.strs {e : TypeId} (h : Rw enc P W t cs) (ht : P.underlying t = some (.slice e)) (he : P.underlying e = some .string) (h1 : P.cellsOf e = 1) : ∃ (p : Option Addr) (zs : List ByteArray) (c : Nat), cs = [.slice p zs.length c] ∧ zs.length ≤ c ∧ c * P.bytesOf e ≤ 140737488351232 ∧ StrP W p zs ∧ ∀ z ∈ zs, z.size ≤ 140737488351232 := by
  obtain ⟨p, n, c, hcs, hnc, hcb, _, hel⟩ := h.slice ht (by omega)
  have key : ∀ i, i < n → ∃ z : ByteArray, z.size ≤ 140737488351232 ∧ ∃ b o, p = some ⟨b, o, none⟩ ∧ W.cell? ⟨b, o + i, none⟩ = some (.string z) := fun i hi => by
    obtain ⟨b, o, cs', hp, hl, hc, hr⟩ := hel i hi
    obtain ⟨z, rfl, hz⟩ := hr.str he
    have := hc 0 _ rfl
    rw [h1] at this
    exact ⟨z, hz, b, o, hp, by simpa using this⟩
  have hex : ∃ g : Nat → ByteArray, ∀ i, i < n → (g i).size ≤ 140737488351232 ∧ ∃ b o, p = some ⟨b, o, none⟩ ∧ W.cell? ⟨b, o + i, none⟩ = some (.string (g i)) := by
    refine ⟨fun i => if h : i < n then Classical.choose (key i h) else ByteArray.empty, fun i hi => ?_⟩
    simp only [hi, dif_pos]
    exact Classical.choose_spec (key i hi)
  obtain ⟨g, hg⟩ := hex
  refine ⟨p, (List.range n).map g, c, by simpa using hcs, by simpa using hnc, hcb, fun j z hj => ?_, fun z hz => ?_⟩
  · rw [List.getElem?_map] at hj
    rcases Nat.lt_or_ge j n with h | h
    · simp [h] at hj
      subst hj
      exact (hg j h).2
    · simp [h] at hj
  · obtain ⟨i, hi, rfl⟩ := List.mem_map.1 hz
    exact (hg i (List.mem_range.1 hi)).1
/-- An array of bytes that was read. -/
theorem Rw.bytes {n : Nat} {e : TypeId} (h : Rw enc P W t cs) (ht : P.underlying t = some (.array n e)) (he : P.underlying e = some (.int .u8)) (h1 : P.cellsOf e = 1) (hn : P.cellsOf t = n) : ∃ f : Nat → Int, cs = arrI .u8 f n 0 ∧ ∀ j, 0 ≤ f j ∧ f j ≤ 255 := by
  obtain ⟨fuel, x, h, _⟩ := h
  obtain ⟨xs, m, _, _, hl, hxl, hg⟩ := DataW.trod_array ht h
  rw [hn] at hl
  have key : ∀ i, i < n → ∃ z : Int, cs[i]? = some (.int .u8 z) ∧ 0 ≤ z ∧ z ≤ 255 := fun i hi => by
    have h2 := hg i hi
    rw [h1, List.getElem?_eq_getElem (by omega)] at h2
    obtain ⟨z, hz, _, hw⟩ := DataW.trod_int he h2
    refine ⟨z, ?_, ?_⟩
    · have : (cs.drop (i * 1)).take 1 = [cs[i]'(by omega)] := by
        rw [Nat.mul_one, List.drop_eq_getElem_cons (by omega)]; rfl
      rw [this] at hz
      simp at hz
      rw [List.getElem?_eq_getElem (by omega), hz]
    · have : IntKind.u8.min ≤ z ∧ z ≤ IntKind.u8.max := by simpa [Lit.wf] using hw
      exact this
  refine ⟨fun i => if h : i < n then Classical.choose (key i h) else 0, arrI_ext .u8 _ n 0 cs hl (fun j hj => ?_), fun j => ?_⟩
  · rw [Nat.zero_add]
    simp only [hj, dif_pos]
    exact (Classical.choose_spec (key j hj)).1
  · by_cases h : j < n
    · simp only [h, dif_pos]; exact (Classical.choose_spec (key j h)).2
    · simp only [h, dif_neg, not_false_iff]; omega
end

end Go.Proofs.YtcpjajjocmpkjaaDoor

/- The reference's rules and items as arguments. No condition. -/
namespace Go.Proofs.YtcpjajjocmpkjaaDoor
open Go.ChangeShapes Go.WideShapes Go.ChangeAt Go.RowKit Go.Deep
section
variable {H : Type} {enc : TypeId × Value → H} {W : World} {base : Nat} {v : Value} {d : DataW H} {ps : List MemPlace}
theorem cellsR : Tryd.prog.cellsOf 24 = 5 := by kernel_rfl
theorem cellsI : Tryd.prog.cellsOf 27 = 38 := by kernel_rfl
set_option maxRecDepth 100000 in
theorem open_R (hv : Value.okWide Tryd.prog W .any base 24 v) (h : DataW.Trod enc Tryd.prog W 0 (fun _ => true) true 24 v d ps) :
    ∃ (nb ps : ByteArray) (mb dl : Int) (p : Option Addr) (ds : List ByteArray) (c : Nat), v = .agg #[.string nb, .string ps, .int .i64 mb, .int .i64 dl, .slice p ds.length c] ∧ ds.length ≤ c ∧ StrP W p ds ∧ ∀ z ∈ ds, z.size ≤ 9223372036854775807 := by
  obtain ⟨cs, rfl, hsz⟩ := okWide_struct Tryd.underlying24 hv
  have hr := Rd.of h
  rw [cellsR] at hsz
  obtain ⟨l⟩ := cs
  match l, hsz with
  | [c0, c1, c2, c3, c4], _ =>
    have hr : Rd enc Tryd.prog W 24 [c0, c1, c2, c3, c4] := hr
    obtain ⟨s0, e0, _⟩ := Rd.str (cs := [c0]) (hr.field Tryd.underlying24 (i := 0) rfl) Tryd.underlying9
    obtain ⟨s1, e1, _⟩ := Rd.str (cs := [c1]) (hr.field Tryd.underlying24 (i := 1) rfl) Tryd.underlying9
    obtain ⟨n2, e2, _⟩ := Rd.int (cs := [c2]) (hr.field Tryd.underlying24 (i := 2) rfl) Tryd.underlying3
    obtain ⟨n3, e3, _⟩ := Rd.int (cs := [c3]) (hr.field Tryd.underlying24 (i := 3) rfl) Tryd.underlying3
    obtain ⟨p, zs, c, e4, h4⟩ := Rd.strs (cs := [c4]) (hr.field Tryd.underlying24 (i := 4) rfl) Tryd.underlying22 Tryd.underlying9 (by kernel_rfl)
    simp only [List.cons.injEq, and_true] at e0 e1 e2 e3 e4
    subst e0 e1 e2 e3 e4
    exact ⟨s0, s1, n2, n3, p, zs, c, rfl, h4⟩
theorem six {l : List Value} {a b c d e f : Value} (hl : l.length = 6) (h0 : (l.drop 0).take 1 = [a]) (h1 : (l.drop 1).take 1 = [b]) (h2 : (l.drop 2).take 1 = [c]) (h3 : (l.drop 3).take 1 = [d]) (h4 : (l.drop 4).take 1 = [e]) (h5 : (l.drop 5).take 1 = [f]) : l = [a, b, c, d, e, f] := by
  match l, hl with
  | [u0, u1, u2, u3, u4, u5], _ => simp at h0 h1 h2 h3 h4 h5; simp [h0, h1, h2, h3, h4, h5]
set_option maxRecDepth 100000 in
theorem open_I (hv : Value.okWide Tryd.prog W .any base 27 v) (h : DataW.Trod enc Tryd.prog W 0 (fun _ => true) true 27 v d ps) :
    ∃ (x : It) (q : Option Addr) (c : Nat), v = .agg (x.cells q c) ∧ x.gs.length ≤ c ∧ StrP W q x.gs ∧ (∀ z ∈ x.gs, z.size ≤ 9223372036854775807) ∧ (-9223372036854775808 ≤ x.ar ∧ x.ar ≤ 9223372036854775807) := by
  obtain ⟨cs, rfl, hsz⟩ := okWide_struct Tryd.underlying27 hv
  have hr := Rd.of h
  rw [cellsI] at hsz
  obtain ⟨l⟩ := cs
  have hl : l.length = 38 := hsz
  have hr : Rd enc Tryd.prog W 27 l := hr
  obtain ⟨f, e0⟩ := Rd.arr (cs := (l.drop 0).take 32) (hr.field Tryd.underlying27 (i := 0) rfl) Tryd.underlying25 Tryd.underlying5 (by kernel_rfl) (by kernel_rfl)
  obtain ⟨q, zs, c, e1, g1, g2, g3⟩ := Rd.strs (cs := (l.drop 32).take 1) (hr.field Tryd.underlying27 (i := 1) rfl) Tryd.underlying22 Tryd.underlying9 (by kernel_rfl)
  obtain ⟨s2, e2, _⟩ := Rd.str (cs := (l.drop 33).take 1) (hr.field Tryd.underlying27 (i := 2) rfl) Tryd.underlying9
  obtain ⟨n3, e3, _⟩ := Rd.int (cs := (l.drop 34).take 1) (hr.field Tryd.underlying27 (i := 3) rfl) Tryd.underlying3
  obtain ⟨b4, e4⟩ := Rd.bool (cs := (l.drop 35).take 1) (hr.field Tryd.underlying27 (i := 4) rfl) Tryd.underlying4
  obtain ⟨s5, e5, _⟩ := Rd.str (cs := (l.drop 36).take 1) (hr.field Tryd.underlying27 (i := 5) rfl) Tryd.underlying9
  obtain ⟨n6, e6, w6⟩ := Rd.int (cs := (l.drop 37).take 1) (hr.field Tryd.underlying27 (i := 6) rfl) Tryd.underlying3
  have hd : ∀ k, l.drop (32 + k) = (l.drop 32).drop k := fun k => by rw [List.drop_drop]
  have e7 := six (l := l.drop 32) (by simp [hl]) e1 (by rw [← hd]; exact e2) (by rw [← hd]; exact e3) (by rw [← hd]; exact e4) (by rw [← hd]; exact e5) (by rw [← hd]; exact e6)
  have hl2 : l = arrI .u8 f 32 0 ++ [Value.slice q zs.length c, Value.string s2, Value.int .i64 n3, Value.bool b4, Value.string s5, Value.int .i64 n6] := by
    rw [← List.take_append_drop 32 l, e7]
    congr 1
  refine ⟨⟨f, zs, s2, n3, b4, s5, n6⟩, q, c, by rw [hl2]; rfl, g1, g2, g3, ?_⟩
  have : IntKind.i64.min ≤ n6 ∧ n6 ≤ IntKind.i64.max := by simpa [Lit.wf] using w6
  exact this
end
end Go.Proofs.YtcpjajjocmpkjaaDoor

/- The reference's rules and items as arguments, with their sizes. No condition. -/
namespace Go.Proofs.YtcpjajjocmpkjaaDoor
open Go.ChangeShapes Go.WideShapes Go.ChangeAt Go.RowKit Go.Deep
section
variable {H : Type} {enc : TypeId × Value → H} {W : World} {base : Nat} {v : Value}
set_option maxRecDepth 100000 in
theorem openw_R (hv : Value.okWide Tryd.prog W .any base 24 v) (hr : Rw enc Tryd.prog W 24 v.cells.toList) :
    ∃ (nb ps : ByteArray) (mb dl : Int) (p : Option Addr) (ds : List ByteArray) (c : Nat), v = .agg #[.string nb, .string ps, .int .i64 mb, .int .i64 dl, .slice p ds.length c] ∧ ds.length ≤ c ∧ StrP W p ds ∧ (∀ z ∈ ds, z.size ≤ 140737488351232) := by
  obtain ⟨cs, rfl, hsz⟩ := okWide_struct Tryd.underlying24 hv
  rw [cellsR] at hsz
  obtain ⟨l⟩ := cs
  match l, hsz with
  | [c0, c1, c2, c3, c4], _ =>
    have hr : Rw enc Tryd.prog W 24 [c0, c1, c2, c3, c4] := hr
    obtain ⟨s0, e0, _⟩ := Rw.str (cs := [c0]) (hr.field Tryd.underlying24 (i := 0) rfl) Tryd.underlying9
    obtain ⟨s1, e1, _⟩ := Rw.str (cs := [c1]) (hr.field Tryd.underlying24 (i := 1) rfl) Tryd.underlying9
    obtain ⟨n2, e2, _⟩ := Rw.int64 (cs := [c2]) (hr.field Tryd.underlying24 (i := 2) rfl) Tryd.underlying3
    obtain ⟨n3, e3, _⟩ := Rw.int64 (cs := [c3]) (hr.field Tryd.underlying24 (i := 3) rfl) Tryd.underlying3
    obtain ⟨p, zs, c, e4, h4, _, h5⟩ := Rw.strs (cs := [c4]) (hr.field Tryd.underlying24 (i := 4) rfl) Tryd.underlying22 Tryd.underlying9 (by kernel_rfl)
    simp only [List.cons.injEq, and_true] at e0 e1 e2 e3 e4
    subst e0 e1 e2 e3 e4
    exact ⟨s0, s1, n2, n3, p, zs, c, rfl, h4, h5⟩
set_option maxRecDepth 100000 in
/-- The cells of an item. -/
theorem rw_I {l : List Value} (hl : l.length = 38) (hr : Rw enc Tryd.prog W 27 l) :
    ∃ (x : It) (q : Option Addr) (c : Nat), l.toArray = x.cells q c ∧ x.gs.length ≤ c ∧ StrP W q x.gs ∧ (∀ z ∈ x.gs, z.size ≤ 140737488351232) ∧ (-9223372036854775808 ≤ x.ar ∧ x.ar ≤ 9223372036854775807) ∧ (∀ j, 0 ≤ x.id j ∧ x.id j ≤ 255) := by
  obtain ⟨f, e0, hf⟩ := Rw.bytes (cs := (l.drop 0).take 32) (hr.field Tryd.underlying27 (i := 0) rfl) Tryd.underlying25 Tryd.underlying5 (by kernel_rfl) (by kernel_rfl)
  obtain ⟨q, zs, c, e1, g1, _, g2, g3⟩ := Rw.strs (cs := (l.drop 32).take 1) (hr.field Tryd.underlying27 (i := 1) rfl) Tryd.underlying22 Tryd.underlying9 (by kernel_rfl)
  obtain ⟨s2, e2, _⟩ := Rw.str (cs := (l.drop 33).take 1) (hr.field Tryd.underlying27 (i := 2) rfl) Tryd.underlying9
  obtain ⟨n3, e3, _⟩ := Rw.int64 (cs := (l.drop 34).take 1) (hr.field Tryd.underlying27 (i := 3) rfl) Tryd.underlying3
  obtain ⟨b4, e4⟩ := Rw.bool (cs := (l.drop 35).take 1) (hr.field Tryd.underlying27 (i := 4) rfl) Tryd.underlying4
  obtain ⟨s5, e5, _⟩ := Rw.str (cs := (l.drop 36).take 1) (hr.field Tryd.underlying27 (i := 5) rfl) Tryd.underlying9
  obtain ⟨n6, e6, w6⟩ := Rw.int64 (cs := (l.drop 37).take 1) (hr.field Tryd.underlying27 (i := 6) rfl) Tryd.underlying3
  have hd : ∀ k, l.drop (32 + k) = (l.drop 32).drop k := fun k => by rw [List.drop_drop]
  have e7 := six (l := l.drop 32) (by simp [hl]) e1 (by rw [← hd]; exact e2) (by rw [← hd]; exact e3) (by rw [← hd]; exact e4) (by rw [← hd]; exact e5) (by rw [← hd]; exact e6)
  have hl2 : l = arrI .u8 f 32 0 ++ [Value.slice q zs.length c, Value.string s2, Value.int .i64 n3, Value.bool b4, Value.string s5, Value.int .i64 n6] := by
    rw [← List.take_append_drop 32 l, e7]
    congr 1
  exact ⟨⟨f, zs, s2, n3, b4, s5, n6⟩, q, c, by rw [hl2]; rfl, g1, g2, g3, w6, hf⟩
set_option maxRecDepth 100000 in
theorem openw_I (hv : Value.okWide Tryd.prog W .any base 27 v) (hr : Rw enc Tryd.prog W 27 v.cells.toList) :
    ∃ (x : It) (q : Option Addr) (c : Nat), v = .agg (x.cells q c) ∧ x.gs.length ≤ c ∧ StrP W q x.gs ∧ (∀ z ∈ x.gs, z.size ≤ 140737488351232) ∧ (-9223372036854775808 ≤ x.ar ∧ x.ar ≤ 9223372036854775807) ∧ (∀ j, 0 ≤ x.id j ∧ x.id j ≤ 255) := by
  obtain ⟨cs, rfl, hsz⟩ := okWide_struct Tryd.underlying27 hv
  rw [cellsI] at hsz
  obtain ⟨l⟩ := cs
  obtain ⟨x, q, c, h1, h2⟩ := rw_I (l := l) hsz hr
  exact ⟨x, q, c, by rw [← h1], h2⟩
end
end Go.Proofs.YtcpjajjocmpkjaaDoor

/- Opener of a slice of charges. -/
namespace Go.Proofs.YtcpjajjocmpkjaaDoor
open Go.ChangeShapes Go.WideShapes Go.ChangeAt Go.RowKit Go.Deep

theorem cells2 : Tryd.prog.cellsOf 56 = 2 := by kernel_rfl
set_option maxRecDepth 100000 in
theorem ch_of {H : Type} {enc : TypeId × Value → H} {W : World} {p : Option Addr} {n c : Nat} {d : DataW H} {ps : List MemPlace} (h : DataW.Trod enc Tryd.prog W 0 (fun _ => true) true 47 (.slice p n c) d ps) : ChP W p n := by
  obtain ⟨fuel, h⟩ := h
  rcases open_slice Tryd.underlying47 h with ⟨h0, _⟩ | ⟨a, len, cap, m, nn, D, Pl, hcs, hb, hl, hm, hmm, hx, hi⟩
  · have h0 : p = none ∧ n = 0 ∧ c = 0 := by simpa [Value.cells] using h0
    intro k hk
    omega
  · have hcs : p = some a ∧ n = len ∧ c = cap := by simpa [Value.cells] using hcs
    obtain ⟨rfl, rfl, rfl⟩ := hcs
    intro k hk
    obtain ⟨cs', hc, ht⟩ := hi k (by rw [hmm]; simp; omega)
    rw [cells2] at hc
    obtain ⟨_, hlen, hat⟩ := World.cells?_some hc
    obtain ⟨ys, n', _, _, _, hyl, hf⟩ := DataW.trod_struct Tryd.underlying56 ht
    have h0 := hf 0 _ rfl
    have h1 := hf 1 _ rfl
    match cs', hlen with
    | [u, v], _ =>
      have y0 : ys[0]? = some (ys[0]'(by rw [hyl]; decide)) := List.getElem?_eq_getElem _
      have y1 : ys[1]? = some (ys[1]'(by rw [hyl]; decide)) := List.getElem?_eq_getElem _
      rw [y0] at h0
      rw [y1] at h1
      obtain ⟨x, hx0, _⟩ := DataW.trod_int Tryd.underlying3 h0
      obtain ⟨y, hy0, _⟩ := DataW.trod_int Tryd.underlying3 h1
      have hx1 : [u] = [Value.int .i64 x] := hx0
      have hy1 : [v] = [Value.int .i64 y] := hy0
      clear hx0 hy0 h0 h1
      simp at hx1 hy1
      subst hx1 hy1
      have c0 := hat 0 (by omega)
      have c1 := hat 1 (by omega)
      have hspot : a.spot = none := by
        obtain ⟨cs0, hc0, _⟩ := hi 0 (by rw [hmm]; simp; omega)
        rw [cells2] at hc0
        obtain ⟨_, hl0, ha0⟩ := World.cells?_some hc0
        have h00 := ha0 0 (by omega)
        rw [List.getElem?_eq_getElem (by omega)] at h00
        have := World.cell?_spot h00
        simpa [Addr.add] using this
      obtain ⟨b, o, sp⟩ := a
      simp only at hspot
      subst hspot
      refine ⟨b, o, x, y, rfl, ?_, ?_⟩
      · rw [addr_add2] at c0; exact c0
      · rw [addr_add2] at c1; exact c1

end Go.Proofs.YtcpjajjocmpkjaaDoor
