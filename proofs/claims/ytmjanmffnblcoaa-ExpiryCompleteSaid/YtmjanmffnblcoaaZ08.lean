/- The formulas of functions by the symbolic evaluator, and that each gives the call's contract. Written by a program (gen.py). No condition. -/
import Derived.Test.YtmjanmffnblcoaaProg
import Derived.Test.YtmjanmffnblcoaaZ02
import Derived.Test.YtmjanmffnblcoaaZ04
import Derived.KernelRfl
import Derived.Test.YtmjanmffnblcoaaZ05
import Derived.Test.YtmjanmffnblcoaaZ06
import Derived.Test.YtmjanmffnblcoaaZ07
import Derived.Shelf.SlGeneric
import Derived.Shelf.SlSortCmp.NoneTotal
import Derived.Ground.SlsfProg
namespace Go.Proofs.Ytmjanmffnblcoaa
set_option maxRecDepth 100000
set_option linter.unusedVariables false

def VC_isMinute (x : Int) (w : World) (R : Ending → World → Prop) : Prop :=
 R (Ending.returned (Value.bool (decide (x ≥ 0) && decide (x ≤ 105190559)))) w
theorem vc_isMinute (x : Int) (w : World) (R : Ending → World → Prop) (h : VC_isMinute x w R) : Calls Try.prog 29 ([Value.int
    IntKind.i64 x] : List Value).toArray w R := by
  have e : execR { P := Try.prog, loops := [], pur := pur0, tails := [], joins := [], boxes := [] } Try.f29.results.toList R (Try.f29.body.getD .skip) (initF [Value.int
    IntKind.i64
    x] (Try.f29.ntmps - ([Value.int IntKind.i64 x] : List Value).length)) w = VC_isMinute x w R := by kernel_rfl
  have hb : Try.f29.body = some (Try.f29.body.getD .skip) := by kernel_rfl
  exact calls_of_exec' (P := Try.prog) (fn := Try.f29) (c := Try.f29.body.getD .skip) (args := [Value.int IntKind.i64
    x]) (w := w) (R := R) pur0_ok Try.func29 hb e h

def VC_perm (x : Int) (w : World) (R : Ending → World → Prop) : Prop :=
 R (Ending.returned (Value.bool (x == 3 || x == 4 || x == 5))) w
theorem vc_perm (x : Int) (w : World) (R : Ending → World → Prop) (h : VC_perm x w R) : Calls Try.prog 48 ([Value.int
    IntKind.i64 x] : List Value).toArray w R := by
  have e : execR { P := Try.prog, loops := [], pur := pur0, tails := [], joins := [], boxes := [] } Try.f48.results.toList R (Try.f48.body.getD .skip) (initF [Value.int
    IntKind.i64 x] (Try.f48.ntmps - ([Value.int IntKind.i64 x] : List Value).length)) w = VC_perm x w R := by kernel_rfl
  have hb : Try.f48.body = some (Try.f48.body.getD .skip) := by kernel_rfl
  exact calls_of_exec' (P := Try.prog) (fn := Try.f48) (c := Try.f48.body.getD .skip) (args := [Value.int IntKind.i64
    x]) (w := w) (R := R) pur0_ok Try.func48 hb e h

def VC_rperm (x : Int) (w : World) (R : Ending → World → Prop) : Prop :=
 R (Ending.returned (Value.bool (decide (x ≥ 3) && decide (x ≤ 5)))) w
theorem vc_rperm (x : Int) (w : World) (R : Ending → World → Prop) (h : VC_rperm x w R) : Calls Try.prog 45 ([Value.int
    IntKind.i64 x] : List Value).toArray w R := by
  have e : execR { P := Try.prog, loops := [], pur := pur0, tails := [], joins := [], boxes := [] } Try.f45.results.toList R (Try.f45.body.getD .skip) (initF [Value.int
    IntKind.i64
    x] (Try.f45.ntmps - ([Value.int IntKind.i64 x] : List Value).length)) w = VC_rperm x w R := by kernel_rfl
  have hb : Try.f45.body = some (Try.f45.body.getD .skip) := by kernel_rfl
  exact calls_of_exec' (P := Try.prog) (fn := Try.f45) (c := Try.f45.body.getD .skip) (args := [Value.int IntKind.i64
    x]) (w := w) (R := R) pur0_ok Try.func45 hb e h

def VC_nanI (x : Int) (w : World) (R : Ending → World → Prop) : Prop :=
 R (Ending.returned (Value.bool (x != x))) w
theorem vc_nanI (x : Int) (w : World) (R : Ending → World → Prop) (h : VC_nanI x w R) : Calls Try.prog 72 ([Value.int
    IntKind.i64 x] : List Value).toArray w R := by
  have e : execR { P := Try.prog, loops := [], pur := pur0, tails := [], joins := [], boxes := [] } Try.f72.results.toList R (Try.f72.body.getD .skip) (initF [Value.int
    IntKind.i64 x] (Try.f72.ntmps - ([Value.int IntKind.i64 x] : List Value).length)) w = VC_nanI x w R := by kernel_rfl
  have hb : Try.f72.body = some (Try.f72.body.getD .skip) := by kernel_rfl
  exact calls_of_exec' (P := Try.prog) (fn := Try.f72) (c := Try.f72.body.getD .skip) (args := [Value.int IntKind.i64
    x]) (w := w) (R := R) pur0_ok Try.func72 hb e h

def VC_nanB (x : Int) (w : World) (R : Ending → World → Prop) : Prop :=
 R (Ending.returned (Value.bool (x != x))) w
theorem vc_nanB (x : Int) (w : World) (R : Ending → World → Prop) (h : VC_nanB x w R) : Calls Try.prog 90 ([Value.int
    IntKind.u8 x] : List Value).toArray w R := by
  have e : execR { P := Try.prog, loops := [], pur := pur0, tails := [], joins := [], boxes := [] } Try.f90.results.toList R (Try.f90.body.getD .skip) (initF [Value.int
    IntKind.u8 x] (Try.f90.ntmps - ([Value.int IntKind.u8 x] : List Value).length)) w = VC_nanB x w R := by kernel_rfl
  have hb : Try.f90.body = some (Try.f90.body.getD .skip) := by kernel_rfl
  exact calls_of_exec' (P := Try.prog) (fn := Try.f90) (c := Try.f90.body.getD .skip) (args := [Value.int IntKind.u8
    x]) (w := w) (R := R) pur0_ok Try.func90 hb e h

def VC_cmpI2 (a : Int) (b : Int) (w : World) (R : Ending → World → Prop) : Prop :=
 CallsS Try.prog 72 #[Value.int IntKind.i64 a] w fun (e : Ending) (w' : World) =>
 ∃ (x : Bool),
 e = Ending.returned (Value.bool x) ∧
 CallsS Try.prog 72 #[Value.int IntKind.i64 b] w' fun (e : Ending) (w' : World) =>
 ∃ (x_1 : Bool),
 e = Ending.returned (Value.bool x_1) ∧
 bsp x
 (bsp x_1 (R (Ending.returned (Value.int IntKind.i64 0)) w')
 (R (Ending.returned (Value.int IntKind.i64 (-1))) w'))
 (bsp x_1 (R (Ending.returned (Value.int IntKind.i64 1)) w')
 (bsp (decide (a < b)) (R (Ending.returned (Value.int IntKind.i64 (-1))) w')
 (bsp (decide (a > b)) (R (Ending.returned (Value.int IntKind.i64 1)) w')
 (R (Ending.returned (Value.int IntKind.i64 0)) w'))))
theorem vc_cmpI2 (a : Int) (b : Int) (w : World) (R : Ending → World → Prop) (h : VC_cmpI2 a b w R) : Calls Try.prog 54 ([Value.int
    IntKind.i64 a,
  Value.int IntKind.i64 b] : List Value).toArray w R := by
  have e : execR { P := Try.prog, loops := [], pur := pur0, tails := [], joins := [], boxes := [] } Try.f54.results.toList R (Try.f54.body.getD .skip) (initF [Value.int
    IntKind.i64 a,
  Value.int IntKind.i64
    b] (Try.f54.ntmps - ([Value.int IntKind.i64 a,
  Value.int IntKind.i64 b] : List Value).length)) w = VC_cmpI2 a b w R := by kernel_rfl
  have hb : Try.f54.body = some (Try.f54.body.getD .skip) := by kernel_rfl
  exact calls_of_exec' (P := Try.prog) (fn := Try.f54) (c := Try.f54.body.getD .skip) (args := [Value.int IntKind.i64 a,
  Value.int IntKind.i64 b]) (w := w) (R := R) pur0_ok Try.func54 hb e h

def VC_cmpB2 (a : Int) (b : Int) (w : World) (R : Ending → World → Prop) : Prop :=
 CallsS Try.prog 90 #[Value.int IntKind.u8 a] w fun (e : Ending) (w' : World) =>
 ∃ (x : Bool),
 e = Ending.returned (Value.bool x) ∧
 CallsS Try.prog 90 #[Value.int IntKind.u8 b] w' fun (e : Ending) (w' : World) =>
 ∃ (x_1 : Bool),
 e = Ending.returned (Value.bool x_1) ∧
 bsp x
 (bsp x_1 (R (Ending.returned (Value.int IntKind.i64 0)) w')
 (R (Ending.returned (Value.int IntKind.i64 (-1))) w'))
 (bsp x_1 (R (Ending.returned (Value.int IntKind.i64 1)) w')
 (bsp (decide (a < b)) (R (Ending.returned (Value.int IntKind.i64 (-1))) w')
 (bsp (decide (a > b)) (R (Ending.returned (Value.int IntKind.i64 1)) w')
 (R (Ending.returned (Value.int IntKind.i64 0)) w'))))
theorem vc_cmpB2 (a : Int) (b : Int) (w : World) (R : Ending → World → Prop) (h : VC_cmpB2 a b w R) : Calls Try.prog 73 ([Value.int
    IntKind.u8 a,
  Value.int IntKind.u8 b] : List Value).toArray w R := by
  have e : execR { P := Try.prog, loops := [], pur := pur0, tails := [], joins := [], boxes := [] } Try.f73.results.toList R (Try.f73.body.getD .skip) (initF [Value.int
    IntKind.u8 a,
  Value.int IntKind.u8
    b] (Try.f73.ntmps - ([Value.int IntKind.u8 a,
  Value.int IntKind.u8 b] : List Value).length)) w = VC_cmpB2 a b w R := by kernel_rfl
  have hb : Try.f73.body = some (Try.f73.body.getD .skip) := by kernel_rfl
  exact calls_of_exec' (P := Try.prog) (fn := Try.f73) (c := Try.f73.body.getD .skip) (args := [Value.int IntKind.u8 a,
  Value.int IntKind.u8 b]) (w := w) (R := R) pur0_ok Try.func73 hb e h

def VC_lastHeld (id : Nat → Int) (dt : Int) (ar : Int) (gp : Option Addr) (gn : Nat) (gc : Nat) (by_ : Int) (ct : Int) (hp : Option Addr) (hn : Nat) (hc : Nat) (wd : Bool) (w : World) (R : Ending → World → Prop) : Prop :=
 ∀ (n : Nat) (W : World),
 Loc w.heap.size
 [Blk.mk n 42
 (arrI IntKind.u8 id 32 0 ++ [Value.int IntKind.i64 dt, Value.int IntKind.i64 ar,
 Value.slice gp gn gc, Value.int IntKind.i64 by_, Value.int IntKind.i64 ct, Value.slice hp hn hc, Value.bool wd])
 2]
 w W →
 R (Ending.returned (Value.int IntKind.i64 (IntKind.i64.wrap (dt + 20160)))) W
theorem vc_lastHeld (id : Nat → Int) (dt : Int) (ar : Int) (gp : Option Addr) (gn : Nat) (gc : Nat) (by_ : Int) (ct : Int) (hp : Option Addr) (hn : Nat) (hc : Nat) (wd : Bool) (w : World) (R : Ending → World → Prop) (h : VC_lastHeld id dt ar gp gn gc by_ ct hp hn hc wd w R) : Calls Try.prog 50 ([Value.agg
    (arrI IntKind.u8 id 32 0 ++
        [Value.int IntKind.i64 dt, Value.int IntKind.i64 ar, Value.slice gp gn gc, Value.int IntKind.i64 by_,
          Value.int IntKind.i64 ct, Value.slice hp hn hc, Value.bool wd]).toArray] : List Value).toArray w R := by
  have e : execR2 { P := Try.prog, loops := [], pur := pur0, tails := [], joins := [], boxes := [] } Try.f50.results.toList R (Try.f50.body.getD .skip) (initF [Value.agg
    (arrI IntKind.u8 id 32 0 ++
        [Value.int IntKind.i64 dt, Value.int IntKind.i64 ar, Value.slice gp gn gc, Value.int IntKind.i64 by_,
          Value.int IntKind.i64 ct, Value.slice hp hn hc,
          Value.bool
            wd]).toArray] (Try.f50.ntmps - ([Value.agg
    (arrI IntKind.u8 id 32 0 ++
        [Value.int IntKind.i64 dt, Value.int IntKind.i64 ar, Value.slice gp gn gc, Value.int IntKind.i64 by_,
          Value.int IntKind.i64 ct, Value.slice hp hn hc,
          Value.bool
            wd]).toArray] : List Value).length)) w = VC_lastHeld id dt ar gp gn gc by_ ct hp hn hc wd w R := by kernel_rfl
  have hb : Try.f50.body = some (Try.f50.body.getD .skip) := by kernel_rfl
  exact calls_of_exec2' (P := Try.prog) (fn := Try.f50) (c := Try.f50.body.getD .skip) (args := [Value.agg
    (arrI IntKind.u8 id 32 0 ++
        [Value.int IntKind.i64 dt, Value.int IntKind.i64 ar, Value.slice gp gn gc, Value.int IntKind.i64 by_,
          Value.int IntKind.i64 ct, Value.slice hp hn hc,
          Value.bool wd]).toArray]) (w := w) (R := R) pur0_ok Try.func50 hb e h

def VC_aholds (id : Nat → Int) (dt : Int) (ar : Int) (gp : Option Addr) (gn : Nat) (gc : Nat) (by_ : Int) (ct : Int) (hp : Option Addr) (hn : Nat) (hc : Nat) (wd : Bool) (w : World) (R : Ending → World → Prop) : Prop :=
 ∀ (n : Nat),
 ∃ (p : Option Addr),
 ∃ (n_1 : Nat),
 ∃ (c : Nat),
 gimp (!ct != 0)
 (∀ (W : World),
 Loc w.heap.size
 [Blk.mk n 42
 (arrI IntKind.u8 id 32 0 ++ [Value.int IntKind.i64 dt,
 Value.int IntKind.i64 ar, Value.slice gp gn gc, Value.int IntKind.i64 by_, Value.int IntKind.i64 ct,
 Value.slice hp hn hc, Value.bool wd])
 2]
 w W →
 W.cell? (Addr.mk n (0 + 37) none) = some (Value.slice p n_1 c)) ∧
 ∀ (W : World),
 Loc w.heap.size
 [Blk.mk n 42
 (arrI IntKind.u8 id 32 0 ++ [Value.int IntKind.i64 dt,
 Value.int IntKind.i64 ar, Value.slice gp gn gc, Value.int IntKind.i64 by_, Value.int IntKind.i64 ct,
 Value.slice hp hn hc, Value.bool wd])
 2]
 w W →
 R (Ending.returned (Value.bool (ct != 0 || decide ((↑n_1 : Int) > 0)))) W
theorem vc_aholds (id : Nat → Int) (dt : Int) (ar : Int) (gp : Option Addr) (gn : Nat) (gc : Nat) (by_ : Int) (ct : Int) (hp : Option Addr) (hn : Nat) (hc : Nat) (wd : Bool) (w : World) (R : Ending → World → Prop) (h : VC_aholds id dt ar gp gn gc by_ ct hp hn hc wd w R) : Calls Try.prog 49 ([Value.agg
    (arrI IntKind.u8 id 32 0 ++
        [Value.int IntKind.i64 dt, Value.int IntKind.i64 ar, Value.slice gp gn gc, Value.int IntKind.i64 by_,
          Value.int IntKind.i64 ct, Value.slice hp hn hc, Value.bool wd]).toArray] : List Value).toArray w R := by
  have e : execR2 { P := Try.prog, loops := [], pur := pur0, tails := [], joins := [], boxes := [] } Try.f49.results.toList R (Try.f49.body.getD .skip) (initF [Value.agg
    (arrI IntKind.u8 id 32 0 ++
        [Value.int IntKind.i64 dt, Value.int IntKind.i64 ar, Value.slice gp gn gc, Value.int IntKind.i64 by_,
          Value.int IntKind.i64 ct, Value.slice hp hn hc,
          Value.bool
            wd]).toArray] (Try.f49.ntmps - ([Value.agg
    (arrI IntKind.u8 id 32 0 ++
        [Value.int IntKind.i64 dt, Value.int IntKind.i64 ar, Value.slice gp gn gc, Value.int IntKind.i64 by_,
          Value.int IntKind.i64 ct, Value.slice hp hn hc,
          Value.bool
            wd]).toArray] : List Value).length)) w = VC_aholds id dt ar gp gn gc by_ ct hp hn hc wd w R := by kernel_rfl
  have hb : Try.f49.body = some (Try.f49.body.getD .skip) := by kernel_rfl
  exact calls_of_exec2' (P := Try.prog) (fn := Try.f49) (c := Try.f49.body.getD .skip) (args := [Value.agg
    (arrI IntKind.u8 id 32 0 ++
        [Value.int IntKind.i64 dt, Value.int IntKind.i64 ar, Value.slice gp gn gc, Value.int IntKind.i64 by_,
          Value.int IntKind.i64 ct, Value.slice hp hn hc,
          Value.bool wd]).toArray]) (w := w) (R := R) pur0_ok Try.func49 hb e h

end Go.Proofs.Ytmjanmffnblcoaa

/- Functions without an effect, chapter 42: isMinute, Permanent, cmp.Compare. No condition. -/
namespace Go.Proofs.Ytmjanmffnblcoaa
open Go.RowKit

def minB (x : Int) : Bool := decide (0 ≤ x) && decide (x ≤ 105190559)
def permC (x : Int) : Bool := x == 3 || x == 4 || x == 5
def cI (a b : Int) : Int := if a < b then -1 else if b < a then 1 else 0
theorem isMinute_any (x : Int) (w : World) : Calls Try.prog 29 #[.int .i64 x] w fun e w' => e = .returned (.bool (minB x)) ∧ w' = w := vc_isMinute x w _ ⟨rfl, rfl⟩
theorem perm_any (x : Int) (w : World) : Calls Try.prog 48 #[.int .i64 x] w fun e w' => e = .returned (.bool (permC x)) ∧ w' = w := vc_perm x w _ ⟨rfl, rfl⟩
theorem rperm_any (x : Int) (w : World) : Calls Try.prog 45 #[.int .i64 x] w fun e w' => e = .returned (.bool (permC x)) ∧ w' = w := by
  refine vc_rperm x w _ ⟨?_, rfl⟩
  rw [show (decide (x ≥ 3) && decide (x ≤ 5)) = permC x from ?_]
  unfold permC
  rw [Bool.eq_iff_iff]
  simp
  omega
theorem nanI_any (x : Int) (w : World) : Calls Try.prog 72 #[.int .i64 x] w fun e w' => e = .returned (.bool false) ∧ w' = w := vc_nanI x w _ ⟨by simp, rfl⟩
theorem nanB_any (x : Int) (w : World) : Calls Try.prog 90 #[.int .u8 x] w fun e w' => e = .returned (.bool false) ∧ w' = w := vc_nanB x w _ ⟨by simp, rfl⟩
theorem cI_cases {a b : Int} {w : World} : bsp (decide (a < b)) ((Ending.returned (.int .i64 (-1)) = .returned (.int .i64 (cI a b))) ∧ w = w) (bsp (decide (a > b)) ((Ending.returned (.int .i64 1) = .returned (.int .i64 (cI a b))) ∧ w = w) ((Ending.returned (.int .i64 0) = .returned (.int .i64 (cI a b))) ∧ w = w)) := by
  unfold cI
  refine bsp_intro (fun h => ?_) (fun h => bsp_intro (fun h1 => ?_) (fun h1 => ?_))
  · rw [if_pos (by simpa using h)]; exact ⟨rfl, rfl⟩
  · rw [if_neg (by simpa using h), if_pos (by simpa using h1)]; exact ⟨rfl, rfl⟩
  · rw [if_neg (by simpa using h), if_neg (by simpa using h1)]; exact ⟨rfl, rfl⟩
theorem cmpI_any (a b : Int) (w : World) : Calls Try.prog 54 #[.int .i64 a, .int .i64 b] w fun e w' => e = .returned (.int .i64 (cI a b)) ∧ w' = w := by
  refine vc_cmpI2 a b w _ ⟨(nanI_any a w).mono fun e w' ⟨he, hw⟩ => ⟨_, he, ?_⟩⟩
  subst hw
  refine ⟨(nanI_any b w').mono fun e w'' ⟨he, hw⟩ => ⟨_, he, ?_⟩⟩
  subst hw
  exact cI_cases
theorem cmpB_any (a b : Int) (w : World) : Calls Try.prog 73 #[.int .u8 a, .int .u8 b] w fun e w' => e = .returned (.int .i64 (cI a b)) ∧ w' = w := by
  refine vc_cmpB2 a b w _ ⟨(nanB_any a w).mono fun e w' ⟨he, hw⟩ => ⟨_, he, ?_⟩⟩
  subst hw
  refine ⟨(nanB_any b w').mono fun e w'' ⟨he, hw⟩ => ⟨_, he, ?_⟩⟩
  subst hw
  exact cI_cases

def pur2 (f : FuncId) (args : List Value) : Option (Option Prop × Value) :=
  match f with
  | 29 => (match args with | [.int .i64 c] => some (none, .bool (minB c)) | _ => none)
  | 48 => (match args with | [.int .i64 c] => some (none, .bool (permC c)) | _ => none)
  | 45 => (match args with | [.int .i64 c] => some (none, .bool (permC c)) | _ => none)
  | 54 => (match args with | [.int .i64 a, .int .i64 b] => some (none, .int .i64 (cI a b)) | _ => none)
  | 73 => (match args with | [.int .u8 a, .int .u8 b] => some (none, .int .i64 (cI a b)) | _ => none)
  | f => pur1 f args
theorem pur2_ok {l : List (Nat × List (Nat × Ck))} {t : List (Nat × Nat)} {j : List (Nat × List (Nat × Ck))} {b : List (Nat × Unit)} : PurOK { P := Try.prog, loops := l, pur := pur2, tails := t, joins := j, boxes := b } := fun f args p v h hx => by
  have key : ∀ (f : FuncId) (fn : Func), Try.prog.funcs[f]? = some fn → (fn.name == "runtime.NumGoroutine") = false → fn.body.isNone = false → ∃ fn, Try.prog.funcs[f]? = some fn ∧ (fn.name == "runtime.NumGoroutine") = false ∧ fn.body.isNone = false := fun f fn h1 h2 h3 => ⟨fn, h1, h2, h3⟩
  simp only [pur2] at h
  split at h
  · split at h
    · simp at h; obtain ⟨rfl, rfl⟩ := h; exact ⟨fun w => isMinute_any _ w, key _ _ Try.func29 (by decide) (by decide)⟩
    · simp at h
  · split at h
    · simp at h; obtain ⟨rfl, rfl⟩ := h; exact ⟨fun w => perm_any _ w, key _ _ Try.func48 (by decide) (by decide)⟩
    · simp at h
  · split at h
    · simp at h; obtain ⟨rfl, rfl⟩ := h; exact ⟨fun w => rperm_any _ w, key _ _ Try.func45 (by decide) (by decide)⟩
    · simp at h
  · split at h
    · simp at h; obtain ⟨rfl, rfl⟩ := h; exact ⟨fun w => cmpI_any _ _ w, key _ _ Try.func54 (by decide) (by decide)⟩
    · simp at h
  · split at h
    · simp at h; obtain ⟨rfl, rfl⟩ := h; exact ⟨fun w => cmpB_any _ _ w, key _ _ Try.func73 (by decide) (by decide)⟩
    · simp at h
  · exact pur1_ok (l := l) (t := t) (j := j) (b := b) f args p v h hx

end Go.Proofs.Ytmjanmffnblcoaa

/- Rows of numbers compared one after the other (plain). No condition. -/
namespace Go.Proofs.Ytmjanmffnblcoaa
open Go.Sort

def cmpIs : List Int → List Int → Int
  | [], [] => 0
  | [], _ :: _ => -1
  | _ :: _, [] => 1
  | a :: l, b :: r => if a < b then -1 else if b < a then 1 else cmpIs l r
theorem cmpIs_anti : ∀ a b : List Int, cmpIs a b = - cmpIs b a
  | [], [] => rfl
  | [], _ :: _ => rfl
  | _ :: _, [] => rfl
  | a :: us, b :: bs => by
    have ih := cmpIs_anti us bs
    simp only [cmpIs]
    by_cases h1 : a < b
    · rw [if_pos h1, if_neg (by omega), if_pos h1]
    · by_cases h2 : b < a
      · rw [if_neg h1, if_pos h2, if_pos h2]; rfl
      · rw [if_neg h1, if_neg h2, if_neg h2, if_neg h1]; exact ih
theorem cmpIs_zero : ∀ a b : List Int, cmpIs a b = 0 → a = b
  | [], [], _ => rfl
  | [], _ :: _, h => by simp [cmpIs] at h
  | _ :: _, [], h => by simp [cmpIs] at h
  | a :: us, b :: bs, h => by
    simp only [cmpIs] at h
    split at h
    · cases h
    · split at h
      · cases h
      · have : a = b := by omega
        rw [this, cmpIs_zero us bs h]
theorem cmpIs_self (a : List Int) : cmpIs a a = 0 := by have := cmpIs_anti a a; omega
theorem cmpIs_tlt : ∀ a b c : List Int, cmpIs a b < 0 → cmpIs b c < 0 → cmpIs a c < 0
  | [], [], _, h, _ => by simp [cmpIs] at h
  | _ :: _, [], _, h, _ => by simp [cmpIs] at h
  | [], _ :: _, [], _, h => by simp [cmpIs] at h
  | [], _ :: _, _ :: _, _, _ => by simp [cmpIs]
  | _ :: _, _ :: _, [], _, h => by simp [cmpIs] at h
  | a :: us, b :: bs, c :: cs, h1, h2 => by
    have ih := cmpIs_tlt us bs cs
    simp only [cmpIs] at h1 h2 ⊢
    repeat' split
    all_goals first | decide | (split at h1 <;> split at h2 <;> first | omega | (split at h1 <;> first | omega | (split at h2 <;> first | omega | (apply ih <;> assumption))) | (split at h2 <;> first | omega | (apply ih <;> assumption)))
theorem cmpIs_ord {α : Type} (f : α → List Int) : Ord3 fun x y => cmpIs (f x) (f y) where
  anti x y := cmpIs_anti _ _
  tlt x y z := cmpIs_tlt _ _ _
  el x y z h1 h2 := by rw [cmpIs_zero _ _ h1]; exact h2
  le x y z h1 h2 := by rw [← cmpIs_zero _ _ h2]; exact h1
theorem cmpIs_hit : ∀ (n i : Nat) (f g : Nat → Int) (k : Nat), k < n → (∀ j, j < k → f (i + j) = g (i + j)) → f (i + k) ≠ g (i + k) → cmpIs ((List.range' i n).map f) ((List.range' i n).map g) = cI (f (i + k)) (g (i + k))
  | 0, i, f, g, k, hk, _, _ => by omega
  | n + 1, i, f, g, 0, _, _, hne => by
    rw [Nat.add_zero] at hne ⊢
    rw [List.range'_succ, List.map_cons, List.map_cons]
    unfold cmpIs cI
    by_cases hlt : f i < g i
    · simp [hlt]
    · have : g i < f i := by omega
      simp [hlt, this]
  | n + 1, i, f, g, k + 1, hk, heq, hne => by
    have h0 : f i = g i := by have := heq 0 (by omega); simpa using this
    have ih := cmpIs_hit n (i + 1) f g k (by omega) (fun j hj => by rw [show i + 1 + j = i + (j + 1) by omega]; exact heq (j + 1) (by omega)) (by rw [show i + 1 + k = i + (k + 1) by omega]; exact hne)
    rw [show i + (k + 1) = i + 1 + k by omega, ← ih, List.range'_succ, List.map_cons, List.map_cons, h0]
    simp [cmpIs]
theorem cmpIs_id {f g : Nat → Int} {k : Nat} (hk : k < 32) (heq : ∀ j, j < k → f j = g j) (hne : f k ≠ g k) : cmpIs (idI f) (idI g) = cI (f k) (g k) := by
  have := cmpIs_hit 32 0 f g k hk (fun j hj => by rw [Nat.zero_add]; exact heq j hj) (by rw [Nat.zero_add]; exact hne)
  rw [Nat.zero_add] at this
  rw [← this]
  unfold idI
  rw [List.range_eq_range']
theorem cmpIs_same {f g : Nat → Int} (heq : ∀ j, j < 32 → f j = g j) : cmpIs (idI f) (idI g) = 0 := by
  have : idI f = idI g := by
    unfold idI
    rw [List.map_congr_left (l := List.range 32) (f := f) (g := g) (fun j hj => heq j (List.mem_range.1 hj))]
  rw [this]
  exact cmpIs_self _
theorem cI_ne {a b : Int} : (cI a b != 0) = decide (a ≠ b) := by
  unfold cI
  by_cases h : a < b
  · have : a ≠ b := by omega
    simp [h, this]
  · by_cases h2 : b < a
    · have : a ≠ b := by omega
      simp [h, h2, this]
    · have : a = b := by omega
      simp [this]
theorem cmpIs_bytes : ∀ a b : List Int, (∀ x ∈ a, 0 ≤ x ∧ x ≤ 255) → (∀ x ∈ b, 0 ≤ x ∧ x ≤ 255) → Lib.compareBytes (a.map fun x => x.toNat.toUInt8) (b.map fun x => x.toNat.toUInt8) = cmpIs a b
  | [], [], _, _ => rfl
  | [], _ :: _, _, _ => rfl
  | _ :: _, [], _, _ => rfl
  | x :: a, y :: b, ha, hb => by
    have ih := cmpIs_bytes a b (fun z hz => ha z (by simp [hz])) (fun z hz => hb z (by simp [hz]))
    have h1 := ha x (by simp)
    have h2 := hb y (by simp)
    have e : ∀ a b : Int, 0 ≤ a → a ≤ 255 → 0 ≤ b → b ≤ 255 → (a.toNat.toUInt8 < b.toNat.toUInt8 ↔ a < b) := fun a b p1 p2 p3 p4 => by
      rw [UInt8.lt_iff_toNat_lt]
      simp [Nat.toUInt8]
      omega
    rw [List.map_cons, List.map_cons]
    simp only [Lib.compareBytes, cmpIs, e _ _ h1.1 h1.2 h2.1 h2.2, e _ _ h2.1 h2.2 h1.1 h1.2, ih]
/-- A number first, then a row of numbers. -/
def cfJ (x y : Int × List Int) : Int := if (if x.1 < y.1 then (-1 : Int) else if y.1 < x.1 then 1 else 0) ≠ 0 then (if x.1 < y.1 then (-1 : Int) else if y.1 < x.1 then 1 else 0) else cmpIs x.2 y.2
theorem cfJ_ord : Ord3 cfJ := (ci_ord (fun x : Int × List Int => x.1)).thn (cmpIs_ord (fun x : Int × List Int => x.2)) (fun x y z h1 h2 => by split at h1 <;> split at h2 <;> split <;> omega)
theorem cfJ_K {x y : Int × List Int} (hx : ∀ z ∈ x.2, 0 ≤ z ∧ z ≤ 255) (hy : ∀ z ∈ y.2, 0 ≤ z ∧ z ≤ 255) : cfK (x.1, x.2.map fun z => z.toNat.toUInt8) (y.1, y.2.map fun z => z.toNat.toUInt8) = cfJ x y := by
  unfold cfK cfJ
  simp only
  rw [cmpIs_bytes _ _ hx hy]
theorem Ord3.on {α β : Type} {cf : β → β → Int} (h : Ord3 cf) (f : α → β) : Ord3 fun x y => cf (f x) (f y) := ⟨fun _ _ => h.anti _ _, fun _ _ _ => h.tlt _ _ _, fun _ _ _ => h.el _ _ _, fun _ _ _ => h.le _ _ _⟩

end Go.Proofs.Ytmjanmffnblcoaa

/- The formulas of functions by the symbolic evaluator, and that each gives the call's contract. Written by a program (gen.py). No condition. -/
namespace Go.Proofs.Ytmjanmffnblcoaa
set_option maxRecDepth 100000
set_option linter.unusedVariables false

def VC_eidxC (p : Option Addr) (n : Nat) (c : Nat) (f : FuncId) (fa : Array Value) (fb : Array Value) (w : World) (R : Ending → World → Prop) : Prop :=
 ∃ (I : List Value → World → Prop),
 ∃ (m : List Value → World → Nat),
 I [Value.int IntKind.i64 0] w ∧
 ∀ (x : Int) (w' : World),
 I [Value.int IntKind.i64 x] w' →
 bsp (decide (x < (↑n : Int)))
 (nn true p fun (b o : Nat) =>
 (0 ≤ x ∧ x < (↑n : Int)) ∧
 ∃ (f_1 : Nat → Int),
 ∃ (x_1 : Int),
 ∃ (x_2 : Int),
 ∃ (p : Option Addr),
 ∃ (n : Nat),
 ∃ (c : Nat),
 ∃ (x_3 : Int),
 ∃ (x_4 : Int),
 ∃ (p_1 : Option Addr),
 ∃ (n_1 : Nat),
 ∃ (c_1 : Nat),
 ∃ (x_5 : Bool),
 ∃ (x_6 : Bool),
 ∃ (x_7 : Bool),
 ∃ (x_8 : Bool),
 AtL w' b (o + x.toNat * 42)
 (arrI IntKind.u8 f_1 32 0 ++ [Value.int IntKind.i64 x_1,
 Value.int IntKind.i64 x_2, Value.slice p n c, Value.int IntKind.i64 x_3,
 Value.int IntKind.i64 x_4, Value.slice p_1 n_1 c_1, Value.bool x_5, Value.bool x_6,
 Value.bool x_7, Value.bool x_8]) ∧
 ∃ (f_2 : Nat),
 ∃ (a : Array Value),
 ∃ (b : Array Value),
 Value.func (Fn.func f) fa fb = Value.func (Fn.func f_2) a b ∧
 okFn Try.prog f_2 = true ∧
 CallsS Try.prog f_2
 (appA a
 [Value.agg
 (arrI IntKind.u8 f_1 32 0 ++ [Value.int IntKind.i64 x_1, Value.int IntKind.i64 x_2, Value.slice p n c,
 Value.int IntKind.i64 x_3, Value.int IntKind.i64 x_4, Value.slice p_1 n_1 c_1,
 Value.bool x_5, Value.bool x_6, Value.bool x_7, Value.bool x_8]).toArray]
 b)
 w' fun (e : Ending) (w'_1 : World) =>
 ∃ (x_9 : Bool),
 e = Ending.returned (Value.bool x_9) ∧
 KeptL [] w' w'_1 ∧
 bsp x_9 (R (Ending.returned (Value.int IntKind.i64 x)) w'_1)
 (I [Value.int IntKind.i64 (IntKind.i64.wrap (x + 1))] w'_1 ∧
 m [Value.int IntKind.i64 (IntKind.i64.wrap (x + 1))] w'_1 <
 m [Value.int IntKind.i64 x] w'))
 (R (Ending.returned (Value.int IntKind.i64 (-1))) w')
theorem vc_eidxC (p : Option Addr) (n : Nat) (c : Nat) (f : FuncId) (fa : Array Value) (fb : Array Value) (w : World) (R : Ending → World → Prop) (h : VC_eidxC p n c f fa fb w R) : Calls Try.prog 59 ([Value.slice
    p n c,
  Value.func (Fn.func f) fa fb] : List Value).toArray w R := by
  have e : execR2 { P := Try.prog, loops := [(2, [(8, Ck.int IntKind.i64)])], pur := pur2, tails := [], joins := [], boxes := [] } Try.f59.results.toList R (Try.f59.body.getD .skip) (initF [Value.slice
    p n c,
  Value.func (Fn.func f) fa
    fb] (Try.f59.ntmps - ([Value.slice p n c,
  Value.func (Fn.func f) fa fb] : List Value).length)) w = VC_eidxC p n c f fa fb w R := by kernel_rfl
  have hb : Try.f59.body = some (Try.f59.body.getD .skip) := by kernel_rfl
  exact calls_of_exec2' (P := Try.prog) (fn := Try.f59) (c := Try.f59.body.getD .skip) (args := [Value.slice p n c,
  Value.func (Fn.func f) fa fb]) (w := w) (R := R) pur2_ok Try.func59 hb e h

def VC_edelete (p : Option Addr) (n : Nat) (c : Nat) (i : Int) (j : Int) (w : World) (R : Ending → World → Prop) : Prop :=
 (0 ≤ i ∧ i ≤ j ∧ j ≤ (↑n : Int) ∧ (↑n : Int) ≤ (↑c : Int)) ∧
 bsp (i == j) (R (Ending.returned (Value.slice p n c)) w)
 ((0 ≤ i ∧ i ≤ (↑c : Int)) ∧
 (0 ≤ j ∧ j ≤ (↑n : Int)) ∧
 ∀ (W : World),
 Loc w.heap.size [] w W →
 ∃ (base : Nat),
 ∃ (xs : List Value),
 ∃ (news : List Value),
 W.ownsRow base 109 42 (Value.slice p i.toNat c) i.toNat xs ∧
 news.length = (n - j.toNat) * 42 ∧
 SrcP W (slA p c j.toNat 42) news ∧
 i.toNat + (n - j.toNat) ≤ 9223372036854775807 ∧
 (i.toNat + (n - j.toNat)) * 128 ≤ 140737488355328 ∧
 base ≤ W.heap.size ∧
 ∀ (p' : Option Addr) (c' : Nat) (w' : World),
 w'.ownsRow base 109 42 (Value.slice p' (i.toNat + (n - j.toNat)) c') (i.toNat + (n - j.toNat))
 (xs ++ news) →
 W.grownBy w' (Value.slice p i.toNat c).ownBlock →
 (i.toNat + (n - j.toNat) ≤ c → p' = p ∧ c' = c) →
 KeptL [] W w' ∧
 (0 ≤ (↑(i.toNat + (n - j.toNat)) : Int) ∧
 (↑(i.toNat + (n - j.toNat)) : Int) ≤ (↑n : Int) ∧ (↑n : Int) ≤ (↑c' : Int)) ∧
 ∃ (w1 : World),
 BltP Try.prog Builtin.clear [104]
 [Value.slice (slA p' c' (↑(i.toNat + (n - j.toNat)) : Int).toNat 42)
 ((↑n : Int).toNat - (↑(i.toNat + (n - j.toNat)) : Int).toNat)
 (c' - (↑(i.toNat + (n - j.toNat)) : Int).toNat)]
 w' w1 ∧
 KeptL [] w' w1 ∧ R (Ending.returned (Value.slice p' (i.toNat + (n - j.toNat)) c')) w1)
theorem vc_edelete (p : Option Addr) (n : Nat) (c : Nat) (i : Int) (j : Int) (w : World) (R : Ending → World → Prop) (h : VC_edelete p n c i j w R) : Calls Try.prog 62 ([Value.slice
    p n c,
  Value.int IntKind.i64 i, Value.int IntKind.i64 j] : List Value).toArray w R := by
  have e : execR2 { P := Try.prog, loops := [], pur := pur2, tails := [(5, 6)], joins := [], boxes := [] } Try.f62.results.toList R (Try.f62.body.getD .skip) (initF [Value.slice
    p n c,
  Value.int IntKind.i64 i,
  Value.int IntKind.i64
    j] (Try.f62.ntmps - ([Value.slice p n c, Value.int IntKind.i64 i,
  Value.int IntKind.i64 j] : List Value).length)) w = VC_edelete p n c i j w R := by kernel_rfl
  have hb : Try.f62.body = some (Try.f62.body.getD .skip) := by kernel_rfl
  exact calls_of_exec2' (P := Try.prog) (fn := Try.f62) (c := Try.f62.body.getD .skip) (args := [Value.slice p n c,
  Value.int IntKind.i64 i, Value.int IntKind.i64 j]) (w := w) (R := R) pur2_ok Try.func62 hb e h

def VC_scompare (p : Option Addr) (n : Nat) (c : Nat) (q : Option Addr) (k : Nat) (d : Nat) (w : World) (R : Ending → World → Prop) : Prop :=
 ∃ (I : List Value → World → Prop),
 ∃ (m : List Value → World → Nat),
 I [Value.int IntKind.i64 0] w ∧
 ∀ (x : Int) (w' : World),
 I [Value.int IntKind.i64 x] w' →
 bsp (decide (x < (↑n : Int)))
 (nn true p fun (b o : Nat) =>
 (0 ≤ x ∧ x < (↑n : Int)) ∧
 ∃ (x_1 : Int),
 w'.cell? (Addr.mk b (o + x.toNat) none) = some (Value.int IntKind.u8 x_1) ∧
 bsp (decide (x ≥ (↑k : Int))) (R (Ending.returned (Value.int IntKind.i64 1)) w')
 (nn true q fun (b o : Nat) =>
 (0 ≤ x ∧ x < (↑k : Int)) ∧
 ∃ (x_2 : Int),
 w'.cell? (Addr.mk b (o + x.toNat) none) = some (Value.int IntKind.u8 x_2) ∧
 bsp (cI x_1 x_2 != 0) (R (Ending.returned (Value.int IntKind.i64 (cI x_1 x_2))) w')
 (I [Value.int IntKind.i64 (IntKind.i64.wrap (x + 1))] w' ∧
 m [Value.int IntKind.i64 (IntKind.i64.wrap (x + 1))] w' < m [Value.int IntKind.i64 x] w')))
 (bsp (decide ((↑n : Int) < (↑k : Int))) (R (Ending.returned (Value.int IntKind.i64 (-1))) w')
 (R (Ending.returned (Value.int IntKind.i64 0)) w'))
theorem vc_scompare (p : Option Addr) (n : Nat) (c : Nat) (q : Option Addr) (k : Nat) (d : Nat) (w : World) (R : Ending → World → Prop) (h : VC_scompare p n c q k d w R) : Calls Try.prog 55 ([Value.slice
    p n c,
  Value.slice q k d] : List Value).toArray w R := by
  have e : execR2 { P := Try.prog, loops := [(2, [(11, Ck.int IntKind.i64)])], pur := pur2, tails := [], joins := [], boxes := [] } Try.f55.results.toList R (Try.f55.body.getD .skip) (initF [Value.slice
    p n c,
  Value.slice q k
    d] (Try.f55.ntmps - ([Value.slice p n c,
  Value.slice q k d] : List Value).length)) w = VC_scompare p n c q k d w R := by kernel_rfl
  have hb : Try.f55.body = some (Try.f55.body.getD .skip) := by kernel_rfl
  exact calls_of_exec2' (P := Try.prog) (fn := Try.f55) (c := Try.f55.body.getD .skip) (args := [Value.slice p n c,
  Value.slice q k d]) (w := w) (R := R) pur2_ok Try.func55 hb e h

def VC_ecmp (id : Nat → Int) (dt : Int) (ar : Int) (gp : Option Addr) (gn : Nat) (gc : Nat) (by_ : Int) (ct : Int) (hp : Option Addr) (hn : Nat) (hc : Nat) (wd : Bool) (fx : Bool) (ov : Bool) (my : Bool) (id2 : Nat → Int) (dt2 : Int) (ar2 : Int) (gp2 : Option Addr) (gn2 : Nat) (gc2 : Nat) (by2_ : Int) (ct2 : Int) (hp2 : Option Addr) (hn2 : Nat) (hc2 : Nat) (wd2 : Bool) (fx2 : Bool) (ov2 : Bool) (my2 : Bool) (w : World) (R : Ending → World → Prop) : Prop :=
 ∀ (n n_1 : Nat) (W : World),
 Loc w.heap.size
 [Blk.mk n_1 109
 (arrI IntKind.u8 id2 32 0 ++ [Value.int IntKind.i64 dt2,
 Value.int IntKind.i64 ar2, Value.slice gp2 gn2 gc2, Value.int IntKind.i64 by2_, Value.int IntKind.i64 ct2,
 Value.slice hp2 hn2 hc2, Value.bool wd2, Value.bool fx2, Value.bool ov2, Value.bool my2])
 2,
 Blk.mk n 109
 (arrI IntKind.u8 id 32 0 ++ [Value.int IntKind.i64 dt, Value.int IntKind.i64 ar,
 Value.slice gp gn gc, Value.int IntKind.i64 by_, Value.int IntKind.i64 ct, Value.slice hp hn hc, Value.bool wd,
 Value.bool fx, Value.bool ov, Value.bool my])
 2]
 w W →
 CallsS Try.prog 55 #[Value.slice (some (Addr.mk n 0 none)) 32 32, Value.slice (some (Addr.mk n_1 0 none)) 32 32] W
 fun (e : Ending) (w' : World) =>
 ∃ (x : Int),
 e = Ending.returned (Value.int IntKind.i64 x) ∧
 KeptL [] W w' ∧
 ∀ (n : Nat) (W : World),
 Loc w.heap.size [Blk.mk n 3 [Value.int IntKind.i64 (cI ar ar2), Value.int IntKind.i64 x] 2] w' W →
 CallsS Try.prog 53 #[Value.slice (some (Addr.mk n 0 none)) 2 2] W fun (e : Ending) (w' : World) =>
 ∃ (x : Int),
 e = Ending.returned (Value.int IntKind.i64 x) ∧
 KeptL [] W w' ∧ R (Ending.returned (Value.int IntKind.i64 x)) w'
theorem vc_ecmp (id : Nat → Int) (dt : Int) (ar : Int) (gp : Option Addr) (gn : Nat) (gc : Nat) (by_ : Int) (ct : Int) (hp : Option Addr) (hn : Nat) (hc : Nat) (wd : Bool) (fx : Bool) (ov : Bool) (my : Bool) (id2 : Nat → Int) (dt2 : Int) (ar2 : Int) (gp2 : Option Addr) (gn2 : Nat) (gc2 : Nat) (by2_ : Int) (ct2 : Int) (hp2 : Option Addr) (hn2 : Nat) (hc2 : Nat) (wd2 : Bool) (fx2 : Bool) (ov2 : Bool) (my2 : Bool) (w : World) (R : Ending → World → Prop) (h : VC_ecmp id dt ar gp gn gc by_ ct hp hn hc wd fx ov my id2 dt2 ar2 gp2 gn2 gc2 by2_ ct2 hp2 hn2 hc2 wd2 fx2 ov2 my2 w R) : Calls Try.prog 52 ([Value.agg
    (arrI IntKind.u8 id 32 0 ++
        [Value.int IntKind.i64 dt, Value.int IntKind.i64 ar, Value.slice gp gn gc, Value.int IntKind.i64 by_,
          Value.int IntKind.i64 ct, Value.slice hp hn hc, Value.bool wd, Value.bool fx, Value.bool ov,
          Value.bool my]).toArray,
  Value.agg
    (arrI IntKind.u8 id2 32 0 ++
        [Value.int IntKind.i64 dt2, Value.int IntKind.i64 ar2, Value.slice gp2 gn2 gc2, Value.int IntKind.i64 by2_,
          Value.int IntKind.i64 ct2, Value.slice hp2 hn2 hc2, Value.bool wd2, Value.bool fx2, Value.bool ov2,
          Value.bool my2]).toArray] : List Value).toArray w R := by
  have e : execR2 { P := Try.prog, loops := [], pur := pur2, tails := [(1, 13)], joins := [], boxes := [] } Try.f52.results.toList R (Try.f52.body.getD .skip) (initF [Value.agg
    (arrI IntKind.u8 id 32 0 ++
        [Value.int IntKind.i64 dt, Value.int IntKind.i64 ar, Value.slice gp gn gc, Value.int IntKind.i64 by_,
          Value.int IntKind.i64 ct, Value.slice hp hn hc, Value.bool wd, Value.bool fx, Value.bool ov,
          Value.bool my]).toArray,
  Value.agg
    (arrI IntKind.u8 id2 32 0 ++
        [Value.int IntKind.i64 dt2, Value.int IntKind.i64 ar2, Value.slice gp2 gn2 gc2, Value.int IntKind.i64 by2_,
          Value.int IntKind.i64 ct2, Value.slice hp2 hn2 hc2, Value.bool wd2, Value.bool fx2, Value.bool ov2,
          Value.bool
            my2]).toArray] (Try.f52.ntmps - ([Value.agg
    (arrI IntKind.u8 id 32 0 ++
        [Value.int IntKind.i64 dt, Value.int IntKind.i64 ar, Value.slice gp gn gc, Value.int IntKind.i64 by_,
          Value.int IntKind.i64 ct, Value.slice hp hn hc, Value.bool wd, Value.bool fx, Value.bool ov,
          Value.bool my]).toArray,
  Value.agg
    (arrI IntKind.u8 id2 32 0 ++
        [Value.int IntKind.i64 dt2, Value.int IntKind.i64 ar2, Value.slice gp2 gn2 gc2, Value.int IntKind.i64 by2_,
          Value.int IntKind.i64 ct2, Value.slice hp2 hn2 hc2, Value.bool wd2, Value.bool fx2, Value.bool ov2,
          Value.bool
            my2]).toArray] : List Value).length)) w = VC_ecmp id dt ar gp gn gc by_ ct hp hn hc wd fx ov my id2 dt2 ar2 gp2 gn2 gc2 by2_ ct2 hp2 hn2 hc2 wd2 fx2 ov2 my2 w R := by kernel_rfl
  have hb : Try.f52.body = some (Try.f52.body.getD .skip) := by kernel_rfl
  exact calls_of_exec2' (P := Try.prog) (fn := Try.f52) (c := Try.f52.body.getD .skip) (args := [Value.agg
    (arrI IntKind.u8 id 32 0 ++
        [Value.int IntKind.i64 dt, Value.int IntKind.i64 ar, Value.slice gp gn gc, Value.int IntKind.i64 by_,
          Value.int IntKind.i64 ct, Value.slice hp hn hc, Value.bool wd, Value.bool fx, Value.bool ov,
          Value.bool my]).toArray,
  Value.agg
    (arrI IntKind.u8 id2 32 0 ++
        [Value.int IntKind.i64 dt2, Value.int IntKind.i64 ar2, Value.slice gp2 gn2 gc2, Value.int IntKind.i64 by2_,
          Value.int IntKind.i64 ct2, Value.slice hp2 hn2 hc2, Value.bool wd2, Value.bool fx2, Value.bool ov2,
          Value.bool my2]).toArray]) (w := w) (R := R) pur2_ok Try.func52 hb e h

def VC_cmpOr2 (p : Option Addr) (n : Nat) (c : Nat) (w : World) (R : Ending → World → Prop) : Prop :=
 ∃ (I : List Value → World → Prop),
 ∃ (m : List Value → World → Nat),
 I [Value.int IntKind.i64 0] w ∧
 ∀ (x : Int) (w' : World),
 I [Value.int IntKind.i64 x] w' →
 bsp (decide (x < (↑n : Int)))
 (nn true p fun (b o : Nat) =>
 (0 ≤ x ∧ x < (↑n : Int)) ∧
 ∃ (x_1 : Int),
 w'.cell? (Addr.mk b (o + x.toNat) none) = some (Value.int IntKind.i64 x_1) ∧
 bsp (x_1 != 0) (R (Ending.returned (Value.int IntKind.i64 x_1)) w')
 (I [Value.int IntKind.i64 (IntKind.i64.wrap (x + 1))] w' ∧
 m [Value.int IntKind.i64 (IntKind.i64.wrap (x + 1))] w' < m [Value.int IntKind.i64 x] w'))
 (R (Ending.returned (Value.int IntKind.i64 0)) w')
theorem vc_cmpOr2 (p : Option Addr) (n : Nat) (c : Nat) (w : World) (R : Ending → World → Prop) (h : VC_cmpOr2 p n c w R) : Calls Try.prog 53 ([Value.slice
    p n c] : List Value).toArray w R := by
  have e : execR2 { P := Try.prog, loops := [(3, [(8, Ck.int IntKind.i64)])], pur := pur2, tails := [], joins := [], boxes := [] } Try.f53.results.toList R (Try.f53.body.getD .skip) (initF [Value.slice
    p n c] (Try.f53.ntmps - ([Value.slice p n c] : List Value).length)) w = VC_cmpOr2 p n c w R := by kernel_rfl
  have hb : Try.f53.body = some (Try.f53.body.getD .skip) := by kernel_rfl
  exact calls_of_exec2' (P := Try.prog) (fn := Try.f53) (c := Try.f53.body.getD .skip) (args := [Value.slice p n
    c]) (w := w) (R := R) pur2_ok Try.func53 hb e h

end Go.Proofs.Ytmjanmffnblcoaa

/- The formulas of functions by the symbolic evaluator, and that each gives the call's contract. Written by a program (gen.py). No condition. -/
namespace Go.Proofs.Ytmjanmffnblcoaa
set_option maxRecDepth 100000
set_option linter.unusedVariables false

def VC_ecmp1 (a : Array Value) (b : Array Value) (w : World) (R : Ending → World → Prop) : Prop :=
 ∀ (n : Nat) (w1 : World),
 NewB w (Obj.cells a 109) n w1 →
 ∀ (n_1 : Nat) (w1_1 : World),
 NewB w1 (Obj.cells b 109) n_1 w1_1 →
 ∃ (x : Int),
 w1_1.drew.cell? (Addr.mk n (0 + 33) none) = some (Value.int IntKind.i64 x) ∧
 ∃ (x_1 : Int),
 w1_1.drew.cell? (Addr.mk n_1 (0 + 33) none) = some (Value.int IntKind.i64 x_1) ∧
 CallsS Try.prog 55 #[Value.slice (some (Addr.mk n 0 none)) 32 32, Value.slice (some (Addr.mk n_1 0 none)) 32 32]
 w1_1.drew fun (e : Ending) (w' : World) =>
 ∃ (x_2 : Int),
 e = Ending.returned (Value.int IntKind.i64 x_2) ∧
 ∀ (n : Nat) (w1 : World),
 NewB w' (Obj.cells #[Value.int IntKind.i64 (cI x x_1), Value.int IntKind.i64 x_2] 3) n w1 →
 CallsS Try.prog 53 #[Value.slice (some (Addr.mk n 0 none)) 2 2] w1 fun (e : Ending) (w' : World) =>
 ∃ (x : Int),
 e = Ending.returned (Value.int IntKind.i64 x) ∧ R (Ending.returned (Value.int IntKind.i64 x)) w'
theorem vc_ecmp1 (a : Array Value) (b : Array Value) (w : World) (R : Ending → World → Prop) (h : VC_ecmp1 a b w R) : Calls Try.prog 52 ([Value.agg
    a,
  Value.agg b] : List Value).toArray w R := by
  have e : execR { P := Try.prog, loops := [], pur := pur2, tails := [(1, 13)], joins := [], boxes := [] } Try.f52.results.toList R (Try.f52.body.getD .skip) (initF [Value.agg
    a,
  Value.agg b] (Try.f52.ntmps - ([Value.agg a, Value.agg b] : List Value).length)) w = VC_ecmp1 a b w R := by kernel_rfl
  have hb : Try.f52.body = some (Try.f52.body.getD .skip) := by kernel_rfl
  exact calls_of_exec' (P := Try.prog) (fn := Try.f52) (c := Try.f52.body.getD .skip) (args := [Value.agg a,
  Value.agg b]) (w := w) (R := R) pur2_ok Try.func52 hb e h

end Go.Proofs.Ytmjanmffnblcoaa

/- Chapter 42: the contracts of IndexFunc, ContainsFunc, Held, the comparison of candidates, Delete. No condition but sizes. -/
namespace Go.Proofs.Ytmjanmffnblcoaa
open Go.RowKit Go.Sort

/-- A candidate in the memory. -/
structure CX where
  a : AX
  fx : Bool
  ov : Bool
  my : Bool
def cxC (y : CX) : List Value := arrI .u8 y.a.id 32 0 ++ ([.int .i64 y.a.dt, .int .i64 y.a.ar, .slice y.a.gp y.a.gs.length y.a.gc, .int .i64 y.a.by_, .int .i64 y.a.ct, .slice y.a.hp y.a.hs.length y.a.hc, .bool y.a.wd, .bool y.fx, .bool y.ov, .bool y.my] : List Value)
theorem cxC_length (y : CX) : (cxC y).length = 42 := rfl
theorem axC_length (x : AX) : (axC x).length = 39 := rfl
theorem idL_length (f : Nat → Int) : (idL f).length = 32 := rfl
theorem idL_one (f : Nat → Int) : ∀ u ∈ idL f, u.oneCell' = true := by
  intro v h
  obtain ⟨j, hj, e⟩ := List.getElem_of_mem h
  have := arrI_get .u8 f 32 0 j hj
  rw [List.getElem?_eq_getElem hj] at this
  simp at this
  rw [← e, this]; rfl
theorem cxC_one (y : CX) : ∀ u ∈ cxC y, u.oneCell' = true := by
  intro v hv
  rcases List.mem_append.1 hv with h | h
  · exact idL_one _ v h
  · simp at h
    rcases h with rfl | rfl | rfl | rfl | rfl | rfl | rfl | rfl | rfl | rfl <;> rfl
theorem axC_one (x : AX) : ∀ u ∈ axC x, u.oneCell' = true := by
  intro v hv
  rcases List.mem_append.1 hv with h | h
  · exact idL_one _ v h
  · simp at h
    rcases h with rfl | rfl | rfl | rfl | rfl | rfl | rfl <;> rfl

theorem fidx_hit {α : Type} {g : α → Bool} {l : List α} {i : Nat} {y : α} (h : ∀ j z, j < i → l[j]? = some z → g z = false) (hy : l[i]? = some y) (hg : g y = true) : l.findIdx? g = some i := by
  obtain ⟨hi, e⟩ := List.getElem?_eq_some_iff.1 hy
  rw [List.findIdx?_eq_some_iff_getElem]
  refine ⟨hi, by rw [e]; exact hg, fun j hj => ?_⟩
  rw [h j _ hj (List.getElem?_eq_getElem (by omega))]
  decide
theorem fidx_miss {α : Type} {g : α → Bool} {l : List α} (h : ∀ j z, j < l.length → l[j]? = some z → g z = false) : l.findIdx? g = none := by
  rw [List.findIdx?_eq_none_iff]
  intro x hx
  obtain ⟨j, hj, e⟩ := List.getElem_of_mem hx
  exact h j x hj (by rw [List.getElem?_eq_getElem hj, e])
def fiR {α : Type} (g : α → Bool) (l : List α) : Int := match l.findIdx? g with | some i => i | none => -1

theorem eidxI_any (l : List (Nat → Int)) (p : Option Addr) (c : Nat) (f : FuncId) (fa fb : Array Value) (g : (Nat → Int) → Bool) (w : World) (hR : RowA idL 32 w p l) (hl : l.length ≤ 1048576) (hok : okFn Try.prog f = true)
    (hF : ∀ y ∈ l, ∀ w1, K0 w w1 → Calls Try.prog f (appA fa [.agg (arrI .u8 y 32 0).toArray] fb) w1 fun e w2 => e = .returned (.bool (g y)) ∧ K0 w1 w2) :
    Calls Try.prog 63 #[.slice p l.length c, .func (.func f) fa fb] w fun e w' => e = .returned (.int .i64 (fiR g l)) ∧ K0 w w' := by
  refine vc_eidxI p l.length c f fa fb w _ ?_
  refine ⟨fun vs w' => ∃ i : Nat, vs = [.int .i64 (i : Int)] ∧ i ≤ l.length ∧ (∀ j z, j < i → l[j]? = some z → g z = false) ∧ K0 w w',
    fun vs _ => (match vs with | .int _ x :: _ => l.length - x.toNat | _ => 0), ⟨0, rfl, by omega, (fun j z h => by omega), .refl _ _⟩, ?_⟩
  rintro x w1 ⟨i, hv, hi, hno, k1⟩
  simp only [List.cons.injEq, Value.int.injEq, true_and, and_true] at hv
  subst hv
  refine bsp_intro (fun hlt => ?_) (fun hge => ?_)
  · have hlt : i < l.length := by simp at hlt; omega
    obtain ⟨y, b, o, hy, rfl, hat⟩ := (hR.k0 k1).get hlt
    show (0 ≤ (i : Int) ∧ (i : Int) < (l.length : Int)) ∧ _
    rw [Int.toNat_natCast]
    refine ⟨by omega, y, hat, f, fa, fb, rfl, hok, ⟨(hF y (List.mem_of_getElem? hy) w1 k1).mono fun e w2 ⟨he, k2⟩ => ⟨_, he, .of_k0 k2, bsp_intro (fun hg => ?_) (fun hg => ?_)⟩⟩⟩
    · exact ⟨by unfold fiR; rw [fidx_hit hno hy hg], k1.trans k2⟩
    · refine ⟨⟨i + 1, by rw [inc64 (by omega)], hlt, fun j z hj hz => ?_, k1.trans k2⟩, by rw [inc64 (by omega)]; simp only [Int.toNat_natCast]; omega⟩
      rcases Nat.lt_or_ge j i with h | h
      · exact hno j z h hz
      · have : j = i := by omega
        subst this
        rw [hy] at hz
        simp at hz
        subst hz
        exact hg
  · have hi : i = l.length := by simp at hge; omega
    subst hi
    exact ⟨by unfold fiR; rw [fidx_miss hno], k1⟩
theorem fiR_any {α : Type} (g : α → Bool) (l : List α) : decide (fiR g l ≥ 0) = l.any g := by
  unfold fiR
  cases h : l.findIdx? g with
  | none =>
    rw [List.findIdx?_eq_none_iff] at h
    have : l.any g = false := List.any_eq_false.2 fun x hx => by simp [h x hx]
    rw [this]; decide
  | some i =>
    rw [List.findIdx?_eq_some_iff_getElem] at h
    obtain ⟨hi, h1, _⟩ := h
    have : l.any g = true := List.any_eq_true.2 ⟨l[i], List.getElem_mem hi, h1⟩
    rw [this]; simp
theorem econt_any (l : List (Nat → Int)) (p : Option Addr) (c : Nat) (f : FuncId) (fa fb : Array Value) (g : (Nat → Int) → Bool) (w : World) (hR : RowA idL 32 w p l) (hl : l.length ≤ 1048576) (hok : okFn Try.prog f = true)
    (hF : ∀ y ∈ l, ∀ w1, K0 w w1 → Calls Try.prog f (appA fa [.agg (arrI .u8 y 32 0).toArray] fb) w1 fun e w2 => e = .returned (.bool (g y)) ∧ K0 w1 w2) :
    Calls Try.prog 33 #[.slice p l.length c, .func (.func f) fa fb] w fun e w' => e = .returned (.bool (l.any g)) ∧ K0 w w' :=
  vc_econt p l.length c f fa fb w _ ⟨(eidxI_any l p c f fa fb g w hR hl hok hF).mono fun e w1 ⟨he, k1⟩ => ⟨_, he, .of_k0 k1, by rw [← fiR_any], k1⟩⟩
theorem eheld_any (x : AX) (f : FuncId) (fa fb : Array Value) (g : (Nat → Int) → Bool) (w : World) (hR : RowA idL 32 w x.hp x.hs) (hl : x.hs.length ≤ 1048576) (hok : okFn Try.prog f = true)
    (hF : ∀ y ∈ x.hs, ∀ w1, K0 w w1 → Calls Try.prog f (appA fa [.agg (arrI .u8 y 32 0).toArray] fb) w1 fun e w2 => e = .returned (.bool (g y)) ∧ K0 w1 w2) :
    Calls Try.prog 15 #[.agg (axC x).toArray, .func (.func f) fa fb] w fun e w' => e = .returned (.bool (x.hs.any g)) ∧ K0 w w' := by
  refine vc_eheld x.id x.dt x.ar x.gp x.gs.length x.gc x.by_ x.ct x.hp x.hs.length x.hc x.wd f fa fb w _ ?_
  intro n
  refine ⟨x.hp, x.hs.length, x.hc, fun W hW => cell_at (hW.cells 0 rfl) rfl, fun W hW => ?_⟩
  have kW : K0 w W := hW.kk rfl
  exact ⟨(econt_any x.hs x.hp x.hc f fa fb g W (hR.k0 kW) hl hok (fun y hy w1 k1 => hF y hy w1 (kW.trans k1))).mono fun e w1 ⟨he, k1⟩ => ⟨_, he, .of_k0 k1, by rw [Bool.true_and], kW.trans k1⟩⟩
theorem eheldN_any (x : AX) (w : World) : Calls Try.prog 15 #[.agg (axC x).toArray, .nilFunc] w fun e w' => e = .returned (.bool false) ∧ K0 w w' := by
  refine vc_eheldN x.id x.dt x.ar x.gp x.gs.length x.gc x.by_ x.ct x.hp x.hs.length x.hc x.wd w _ ?_
  intro n
  exact ⟨none, 0, 0, trivial, fun W hW => ⟨.refl _ _, rfl, hW.kk rfl⟩⟩

theorem eidxC_any (l : List CX) (p : Option Addr) (c : Nat) (f : FuncId) (fa fb : Array Value) (g : CX → Bool) (w : World) (hR : RowA cxC 42 w p l) (hl : l.length ≤ 1048576) (hok : okFn Try.prog f = true)
    (hF : ∀ y ∈ l, ∀ w1, K0 w w1 → Calls Try.prog f (appA fa [.agg (cxC y).toArray] fb) w1 fun e w2 => e = .returned (.bool (g y)) ∧ K0 w1 w2) :
    Calls Try.prog 59 #[.slice p l.length c, .func (.func f) fa fb] w fun e w' => e = .returned (.int .i64 (fiR g l)) ∧ K0 w w' := by
  refine vc_eidxC p l.length c f fa fb w _ ?_
  refine ⟨fun vs w' => ∃ i : Nat, vs = [.int .i64 (i : Int)] ∧ i ≤ l.length ∧ (∀ j z, j < i → l[j]? = some z → g z = false) ∧ K0 w w',
    fun vs _ => (match vs with | .int _ x :: _ => l.length - x.toNat | _ => 0), ⟨0, rfl, by omega, (fun j z h => by omega), .refl _ _⟩, ?_⟩
  rintro x w1 ⟨i, hv, hi, hno, k1⟩
  simp only [List.cons.injEq, Value.int.injEq, true_and, and_true] at hv
  subst hv
  refine bsp_intro (fun hlt => ?_) (fun hge => ?_)
  · have hlt : i < l.length := by simp at hlt; omega
    obtain ⟨y, b, o, hy, rfl, hat⟩ := (hR.k0 k1).get hlt
    show (0 ≤ (i : Int) ∧ (i : Int) < (l.length : Int)) ∧ _
    rw [Int.toNat_natCast]
    refine ⟨by omega, y.a.id, y.a.dt, y.a.ar, y.a.gp, y.a.gs.length, y.a.gc, y.a.by_, y.a.ct, y.a.hp, y.a.hs.length, y.a.hc, y.a.wd, y.fx, y.ov, y.my, hat, f, fa, fb, rfl, hok, ⟨(hF y (List.mem_of_getElem? hy) w1 k1).mono fun e w2 ⟨he, k2⟩ => ⟨_, he, .of_k0 k2, bsp_intro (fun hg => ?_) (fun hg => ?_)⟩⟩⟩
    · exact ⟨by unfold fiR; rw [fidx_hit hno hy hg], k1.trans k2⟩
    · refine ⟨⟨i + 1, by rw [inc64 (by omega)], hlt, fun j z hj hz => ?_, k1.trans k2⟩, by rw [inc64 (by omega)]; simp only [Int.toNat_natCast]; omega⟩
      rcases Nat.lt_or_ge j i with h | h
      · exact hno j z h hz
      · have : j = i := by omega
        subst this
        rw [hy] at hz
        simp at hz
        subst hz
        exact hg
  · have hi : i = l.length := by simp at hge; omega
    subst hi
    exact ⟨by unfold fiR; rw [fidx_miss hno], k1⟩

/-! ### The comparison -/
theorem scompare_any {w : World} {b b' o o' : Nat} {f g : Nat → Int} (h : AtL w b o (idL f)) (h' : AtL w b' o' (idL g)) (c c' : Nat) :
    Calls Try.prog 55 #[.slice (some ⟨b, o, none⟩) 32 c, .slice (some ⟨b', o', none⟩) 32 c'] w fun e w' => e = .returned (.int .i64 (cmpIs (idI f) (idI g))) ∧ w' = w := by
  refine vc_scompare (some ⟨b, o, none⟩) 32 c (some ⟨b', o', none⟩) 32 c' w _ ?_
  refine ⟨fun vs w' => ∃ i : Nat, vs = [.int .i64 (i : Int)] ∧ i ≤ 32 ∧ (∀ j, j < i → f j = g j) ∧ w' = w,
    fun vs _ => (match vs with | .int _ x :: _ => 32 - x.toNat | _ => 0), ⟨0, rfl, by omega, (fun j h => by omega), rfl⟩, ?_⟩
  rintro x w1 ⟨i, hv, hi, heq, rfl⟩
  simp only [List.cons.injEq, Value.int.injEq, true_and, and_true] at hv
  subst hv
  refine bsp_intro (fun hlt => ?_) (fun hge => ?_)
  · have hlt : i < 32 := by simp at hlt; omega
    show (0 ≤ (i : Int) ∧ (i : Int) < ((32 : Nat) : Int)) ∧ _
    rw [Int.toNat_natCast]
    refine ⟨by omega, f i, h.cell (by rw [arrI_get .u8 f 32 0 i hlt, Nat.zero_add]), bsp_intro (fun hx => ?_) (fun _ => ?_)⟩
    · exfalso; simp at hx; omega
    show (0 ≤ (i : Int) ∧ (i : Int) < ((32 : Nat) : Int)) ∧ _
    refine ⟨by omega, g i, h'.cell (by rw [arrI_get .u8 g 32 0 i hlt, Nat.zero_add]), ?_⟩
    rw [cI_ne]
    refine bsp_intro (fun hne => ?_) (fun hne => ?_)
    · have hne : f i ≠ g i := by simpa using hne
      exact ⟨by rw [cmpIs_id hlt heq hne], rfl⟩
    · have he : f i = g i := by simpa using hne
      refine ⟨⟨i + 1, by rw [inc64 (by omega)], hlt, fun j hj => ?_, rfl⟩, by rw [inc64 (by omega)]; simp only [Int.toNat_natCast]; omega⟩
      rcases Nat.lt_or_ge j i with h | h
      · exact heq j h
      · have : j = i := by omega
        subst this
        exact he
  · have hi : i = 32 := by simp at hge; omega
    subst hi
    exact bsp_intro (fun h => by simp at h) (fun _ => ⟨by rw [cmpIs_same heq], rfl⟩)
theorem cmpOr2_any (a b : Int) (n c : Nat) (t : TypeId) (w : World) (hb : w.heap[n]? = some (.cells #[.int .i64 a, .int .i64 b] t (0, 0))) :
    Calls Try.prog 53 #[.slice (some ⟨n, 0, none⟩) 2 c] w fun e w' => e = .returned (.int .i64 (if a ≠ 0 then a else b)) ∧ w' = w := by
  refine vc_cmpOr2 (some ⟨n, 0, none⟩) 2 c w _ ?_
  refine ⟨fun vs w' => ∃ i : Nat, vs = [.int .i64 (i : Int)] ∧ i ≤ 2 ∧ (0 < i → a = 0) ∧ (1 < i → b = 0) ∧ w' = w,
    fun vs _ => (match vs with | .int _ x :: _ => 2 - x.toNat | _ => 0), ⟨0, rfl, by omega, (fun h => by omega), (fun h => by omega), rfl⟩, ?_⟩
  rintro x w1 ⟨i, hv, hi, ha, hb0, rfl⟩
  simp only [List.cons.injEq, Value.int.injEq, true_and, and_true] at hv
  subst hv
  refine bsp_intro (fun hlt => ?_) (fun hge => ?_)
  · have hlt : i < 2 := by simp at hlt; omega
    show (0 ≤ (i : Int) ∧ (i : Int) < ((2 : Nat) : Int)) ∧ _
    rw [Int.toNat_natCast]
    rcases (show i = 0 ∨ i = 1 by omega) with rfl | rfl
    · refine ⟨by omega, a, cell_at hb rfl, bsp_intro (fun h => ?_) (fun h => ?_)⟩
      · have h : a ≠ 0 := by simpa using h
        exact ⟨by rw [if_pos h], rfl⟩
      · have h : a = 0 := by simpa using h
        exact ⟨⟨1, by rw [inc64 (by omega)], by omega, (fun _ => h), (fun h => by omega), rfl⟩, by rw [inc64 (by omega)]; simp⟩
    · have ha : a = 0 := ha (by omega)
      refine ⟨by omega, b, cell_at hb rfl, bsp_intro (fun h => ?_) (fun h => ?_)⟩
      · exact ⟨by rw [if_neg (by simpa using ha)], rfl⟩
      · have h : b = 0 := by simpa using h
        exact ⟨⟨2, by rw [inc64 (by omega)], by omega, (fun _ => ha), (fun _ => h), rfl⟩, by rw [inc64 (by omega)]; simp⟩
  · have hi : i = 2 := by simp at hge; omega
    subst hi
    have h1 := ha (by omega)
    have h2 := hb0 (by omega)
    exact ⟨by rw [if_neg (by simpa using h1), h2], rfl⟩
def keyX (x : CX) : Int × List Int := (x.a.ar, idI x.a.id)
def cfX (x y : CX) : Int := cfJ (keyX x) (keyX y)
theorem cfX_ord : Ord3 cfX := cfJ_ord.on keyX
theorem keyA_pl (x : AX) : keyA x.pl = (x.ar, idB x.id) := rfl
theorem ecmp_any (x y : CX) (w : World) :
    Calls Try.prog 52 #[.agg (cxC x).toArray, .agg (cxC y).toArray] w fun e w' => e = .returned (.int .i64 (cfX x y)) ∧ K0 w w' ∧ w.drawn ≤ w'.drawn := by
  refine vc_ecmp1 _ _ w _ ?_
  intro n w1 hn n1 w2 hn1
  have b1 := (hn1.kp (fun _ => False)).blk hn.block (fun h => h)
  have b2 := hn1.block
  have hd : w2.drawn = w.drawn := by rw [hn1.hw, hn.hw]; rfl
  have k2 : K0 w w2 := (hn.kp _).trans (hn1.kp _)
  refine ⟨x.a.ar, cell_at (blk_drew b1) rfl, y.a.ar, cell_at (blk_drew b2) rfl, ?_⟩
  refine ⟨(scompare_any (AtL_block (blk_drew b1) rfl) (AtL_block (blk_drew b2) rfl) 32 32).mono fun e w3 ⟨he, hw⟩ => ⟨_, he, fun n3 w5 hn5 => ?_⟩⟩
  subst hw
  refine ⟨(cmpOr2_any _ _ n3 2 _ w5 hn5.block).mono fun e w6 ⟨he, hw⟩ => ⟨_, he, rfl, ?_, ?_⟩⟩
  · rw [hw]; exact k2.drew.trans (hn5.kp _)
  · rw [hw, hn5.hw]
    show w.drawn ≤ w2.drawn + 1
    omega

/-! ### Delete -/
theorem candInfo : (zeroValue 109).run Try.prog = fun w => .ok (.agg (arrI .u8 (fun _ => 0) 32 0 ++ ([.int .i64 0, .int .i64 0, .slice none 0 0, .int .i64 0, .int .i64 0, .slice none 0 0, .bool false, .bool false, .bool false, .bool false] : List Value)).toArray) w := by kernel_rfl
theorem edelete_any (l : List CX) (p : Option Addr) (c i : Nat) (w : World) {base : Nat} (ho : w.ownsRow base 109 42 (.slice p l.length c) l.length (l.flatMap cxC)) (hi : i < l.length) (hl : l.length ≤ 1048576) :
    Calls Try.prog 62 #[.slice p l.length c, .int .i64 (i : Int), .int .i64 ((i + 1 : Nat) : Int)] w fun e w' =>
      e = .returned (.slice p (l.eraseIdx i).length c) ∧ w'.ownsRow base 109 42 (.slice p (l.eraseIdx i).length c) (l.eraseIdx i).length ((l.eraseIdx i).flatMap cxC) ∧ Kp (fun k => (Value.slice p l.length c).ownBlock = some k) w w' := by
  have hc := own_le ho
  have hel : (l.eraseIdx i).length = l.length - 1 := List.length_eraseIdx_of_lt hi
  refine vc_edelete p l.length c i ((i + 1 : Nat) : Int) w _ ?_
  unfold VC_edelete
  simp only [Int.toNat_natCast]
  refine ⟨⟨by omega, by omega, by omega, by omega⟩, bsp_intro (fun h => by exfalso; simp at h; omega) (fun _ => ⟨by omega, by omega, fun W hW => ?_⟩)⟩
  have kW : K0 w W := hW.kk rfl
  have hoW := owns_kp ho kW (fun _ _ h => h)
  have hlen := ho.1
  have one : ∀ u ∈ l.flatMap cxC, u.oneCell' = true := fun u hu => by obtain ⟨z, _, hz⟩ := List.mem_flatMap.1 hu; exact cxC_one z u hz
  have hbase : base ≤ W.heap.size := by
    rcases hoW.2 with ⟨_, h0⟩ | ⟨g, cap, cur, _, hb, hg, _⟩
    · omega
    · have := block_lt hg; omega
  refine ⟨base, _, _, own_pre hoW (Nat.le_of_lt hi) (by omega), ?_, src_drop hoW one (i := i + 1) hi, by omega, by omega, hbase, fun p' c' w1 ho1 hg1 hroom => ?_⟩
  · rw [List.length_drop, hlen, Nat.sub_mul]
  obtain ⟨rfl, rfl⟩ := hroom (by omega)
  have hk1 := kp_grown hg1
  refine ⟨.of_kp hk1 (fun n hn => by cases hn), by omega, ?_⟩
  rw [erase_flat cxC 42 l i cxC_length] at ho1
  have em : i + (l.length - (i + 1)) = l.length - 1 := by omega
  rw [em] at ho1 ⊢
  rcases ho1.2 with ⟨hv, h0⟩ | ⟨g, cap, cur, hv, hb, hg, h4, h5, h6, h7⟩
  · -- nothing stays: the row is there still
    exfalso
    simp only [Value.slice.injEq] at hv
    rcases hoW.2 with ⟨hv', h0'⟩ | ⟨g, cap, cur, hv', _⟩
    · omega
    · simp only [Value.slice.injEq] at hv'
      rw [hv.1] at hv'
      simp at hv'
  simp only [Value.slice.injEq, true_and] at hv
  obtain ⟨rfl, rfl⟩ := hv
  have eA : slA (some (Addr.mk g 0 none)) c' (l.length - 1) 42 = some ⟨g, (l.length - 1) * 42, none⟩ := by
    unfold slA
    rw [if_neg (by omega)]
    simp [add_plain]
  have hz := clear_row (P := Try.prog) (w := w1) (t := 104) Try.underlying104 (fun w => congrFun candInfo w) (b := g) (o := (l.length - 1) * 42) (m := 1) (c := c' - (l.length - 1)) hg (by decide)
    (by rw [h6]; show (l.length - 1) * 42 + 1 * 42 ≤ c' * 42; omega) (fun v hv => by
      rcases List.mem_append.1 hv with h | h
      · exact idL_one _ v h
      · simp at h
        rcases h with h | h | h <;> (rcases h with rfl | h <;> first | rfl | (subst h; rfl) | (rcases h with rfl | rfl <;> rfl)))
  obtain ⟨w2, hb2, k2, hblk⟩ := hz
  refine ⟨w2, ?_, .of_kp k2 (fun n hn => by cases hn), by rw [hel], ?_, ?_⟩
  · rw [eA]
    rw [show l.length - (l.length - 1) = 1 by omega]
    exact hb2
  · rw [hel]
    exact own_tail ho1 hg (Nat.le_refl _) hblk
  · have e1 : ∀ k, (Value.slice (some (Addr.mk g 0 none)) i c').ownBlock = some k ↔ k = g := fun k => by simp [Value.ownBlock, eq_comm]
    refine (kW.mono (fun _ _ h => h.elim)).trans ((hk1.mono fun k _ h => ?_).trans (k2.mono fun k _ h => ?_))
    · show (Value.slice (some (Addr.mk g 0 none)) l.length c').ownBlock = some k
      have := (e1 k).1 h
      rw [this]; rfl
    · show (Value.slice (some (Addr.mk g 0 none)) l.length c').ownBlock = some k
      rw [h]; rfl

end Go.Proofs.Ytmjanmffnblcoaa

/-
  DERIVED: THE SHELF's CONTRACTS AT THIS DUMP, IN PLAIN WORDS (tools/lay-plain.mjs out of 'TryShelf.lean', which tools/lay-shelf.mjs wrote): THE SAME DECLARATIONS UNDER THE SAME NAMES: 'import', 'namespace', 'open', 'def', 'theorem' AND NOTHING ELSE: no command of the shelf's: FOR A HAND-IN. Each laying: the table of numbers ('.._ren') and one theorem, a field a fact of the dump's own or the kernel's comparison; each contract: ONE APPLICATION.
-/
namespace Go.Proofs
open Go.Shelf
def Try.laysSlF06_f51_ren : Go.Shelf.Ren := ⟨fun | 6 => 51 | 15 => 71 | 14 => 70 | 28 => 88 | 29 => 89 | 20 => 80 | 21 => 81 | 22 => 82 | 23 => 83 | 24 => 84 | 25 => 85 | 26 => 86 | 27 => 87 | 46 => 98 | 47 => 99 | 48 => 100 | 49 => 101 | 50 => 102 | 57 => 103 | n => n, fun | 22 => 104 | 24 => 109 | 25 => 114 | 3 => 3 | 39 => 142 | 0 => 0 | 53 => 159 | 55 => 161 | 4 => 4 | 46 => 152 | 45 => 151 | 50 => 156 | 5 => 5 | 9 => 9 | 66 => 167 | 70 => 171 | 76 => 175 | 77 => 55 | n => n, fun | n => n⟩
theorem Try.laysSlF06_f51 : Go.Proofs.SlLaysF0.n6 Try.prog Try.laysSlF06_f51_ren := {
  mixed := by kernel_rfl
  f6 := ⟨Try.f51.name, by decide, Try.func51.trans (congrArg some (by kernel_rfl))⟩
  f14 := ⟨Try.f70.name, by decide, Try.func70.trans (congrArg some (by kernel_rfl))⟩
  f15 := Try.func71.trans (congrArg some (by kernel_rfl))
  f20 := ⟨Try.f80.name, by decide, Try.func80.trans (congrArg some (by kernel_rfl))⟩
  f21 := ⟨Try.f81.name, by decide, Try.func81.trans (congrArg some (by kernel_rfl))⟩
  f22 := ⟨Try.f82.name, by decide, Try.func82.trans (congrArg some (by kernel_rfl))⟩
  f23 := ⟨Try.f83.name, by decide, Try.func83.trans (congrArg some (by kernel_rfl))⟩
  f24 := ⟨Try.f84.name, by decide, Try.func84.trans (congrArg some (by kernel_rfl))⟩
  f25 := ⟨Try.f85.name, by decide, Try.func85.trans (congrArg some (by kernel_rfl))⟩
  f26 := ⟨Try.f86.name, by decide, Try.func86.trans (congrArg some (by kernel_rfl))⟩
  f27 := ⟨Try.f87.name, by decide, Try.func87.trans (congrArg some (by kernel_rfl))⟩
  f28 := Try.func88.trans (congrArg some (by kernel_rfl))
  f29 := Try.func89.trans (congrArg some (by kernel_rfl))
  f46 := ⟨Try.f98.name, by decide, Try.func98.trans (congrArg some (by kernel_rfl))⟩
  f47 := Try.func99.trans (congrArg some (by kernel_rfl))
  f48 := Try.func100.trans (congrArg some (by kernel_rfl))
  f49 := ⟨Try.f101.name, by decide, Try.func101.trans (congrArg some (by kernel_rfl))⟩
  f50 := ⟨Try.f102.name, by decide, Try.func102.trans (congrArg some (by kernel_rfl))⟩
  f57 := ⟨Try.f103.name, by decide, Try.func103.trans (congrArg some (by kernel_rfl))⟩
  t0 := Try.underlying0
  a0 := Try.isAgg0
  z0 := Try.sizeOf0
  v0 := Try.zeroValue0
  t3 := Try.underlying3
  a3 := Try.isAgg3
  z3 := Try.sizeOf3
  v3 := Try.zeroValue3
  t4 := Try.underlying4
  a4 := Try.isAgg4
  z4 := Try.sizeOf4
  v4 := Try.zeroValue4
  t5 := Try.underlying5
  a5 := Try.isAgg5
  z5 := Try.sizeOf5
  v5 := Try.zeroValue5
  t9 := Try.underlying9
  a9 := Try.isAgg9
  z9 := Try.sizeOf9
  v9 := Try.zeroValue9
  t22 := Try.underlying104
  a22 := Try.isAgg104
  z22 := Try.sizeOf104
  v22 := Try.zeroValue104
  t25 := Try.underlying114
  a25 := Try.isAgg114
  z25 := Try.sizeOf114
  v25 := Try.zeroValue114
  t39 := Try.underlying142
  a39 := Try.isAgg142
  z39 := Try.sizeOf142
  v39 := Try.zeroValue142
  t45 := Try.underlying151
  a45 := Try.isAgg151
  z45 := Try.sizeOf151
  v45 := Try.zeroValue151
  t46 := Try.underlying152
  a46 := Try.isAgg152
  z46 := Try.sizeOf152
  v46 := Try.zeroValue152
  t50 := Try.underlying156
  a50 := Try.isAgg156
  z50 := Try.sizeOf156
  v50 := Try.zeroValue156
  t53 := Try.underlying159
  a53 := Try.isAgg159
  z53 := Try.sizeOf159
  v53 := Try.zeroValue159
  t55 := Try.underlying161
  a55 := Try.isAgg161
  z55 := Try.sizeOf161
  v55 := Try.zeroValue161
  t66 := Try.underlying167
  a66 := Try.isAgg167
  z66 := Try.sizeOf167
  v66 := Try.zeroValue167
  t70 := Try.underlying171
  a70 := Try.isAgg171
  z70 := Try.sizeOf171
  v70 := Try.zeroValue171
  t76 := Try.underlying175
  a76 := Try.isAgg175
  z76 := Try.sizeOf175
  v76 := Try.zeroValue175
  t77 := Try.underlying55
  a77 := Try.isAgg55
  z77 := Try.sizeOf55
  v77 := Try.zeroValue55 }
open Go.RowKit Go.Lib in
/-- slices.SortFunc at no element. -/
theorem Try.slices_SortFunc_none (p : Option Addr) (cap : Nat) (fv : Value) (w : World) :
    Calls Try.prog 51 #[.slice p 0 cap, fv] w fun e w' => e = .returned (.tuple #[]) ∧ w' = w := AnyF.slices_SortFunc_none Try.laysSlF06_f51 p cap fv w
end Go.Proofs

/- Chapter 42: sorting of candidates by the library's contract of slices.SortFunc. -/
namespace Go.Proofs.Ytmjanmffnblcoaa
open Go.RowKit Go.Sort

theorem sortW_kp {α : Type} [Inhabited α] (enc : α → List Value) (k : Nat) (w : World) (blk off m : Nat) (dk : Array α) (os : Array Obj) : Kp (· = blk) w (sortWorldK enc k w blk off m dk os) := by
  refine ⟨rfl, rfl, rfl, size_sortWorldK_c enc k w blk off m dk os, fun i hi hne => ?_⟩
  show (((Sort.ahead w m).heap.modify blk _) ++ os)[i]? = _
  rw [Array.getElem?_append_left (by simpa [Sort.ahead] using hi), Array.getElem?_modify, if_neg (fun e => hne e.symm)]
  rfl
/-- The row's block is of the same make. -/
theorem sortW_blk {α : Type} [Inhabited α] (enc : α → List Value) (k : Nat) (w : World) (blk off m : Nat) (dk : Array α) (os : Array Obj) {cur : Array Value} {t : TypeId} (h : w.heap[blk]? = some (.cells cur t (0, 0))) : ∃ cur' : Array Value, cur'.size = cur.size ∧ (sortWorldK enc k w blk off m dk os).heap[blk]? = some (.cells cur' t (0, 0)) := by
  have hlt := block_lt h
  refine ⟨putCells id off (flatK enc k dk) cur, by simp [putCells], ?_⟩
  show (((Sort.ahead w m).heap.modify blk (onCells (putCells id off (flatK enc k dk)))) ++ os)[blk]? = _
  rw [Array.getElem?_append_left (by simpa [Sort.ahead] using hlt), Array.getElem?_modify, if_pos rfl]
  have e : (Sort.ahead w m).heap[blk]? = w.heap[blk]? := rfl
  rw [e, h]
  rfl
instance : Inhabited AX := ⟨⟨fun _ => 0, 0, 0, none, 0, [], 0, 0, none, 0, [], false⟩⟩
instance : Inhabited CX := ⟨⟨default, false, false, false⟩⟩
theorem cxC_flat (l : List CX) : (l.flatMap cxC).length = l.length * 42 := len_flat cxC 42 l (fun _ _ => rfl)
set_option maxHeartbeats 1000000 in
theorem esort_any (cs : List CX) (p : Option Addr) (c : Nat) (w : World) {base : Nat} (ho : w.ownsRow base 109 42 (.slice p cs.length c) cs.length (cs.flatMap cxC)) (hl : cs.length ≤ 1000000) :
    Calls Try.prog 51 #[.slice p cs.length c, .func (.func 52) #[] #[]] w fun e w' => e = .returned (.tuple #[]) ∧
      ∃ cs' : List CX, cs'.Perm cs ∧ (cs'.Pairwise fun x y => ¬ cfX y x < 0) ∧
        w'.ownsRow base 109 42 (.slice p cs'.length c) cs'.length (cs'.flatMap cxC) ∧ Kp (fun i => (Value.slice p cs.length c).ownBlock = some i) w w' := by
  rcases Nat.eq_zero_or_pos cs.length with h0 | h0
  · have : cs = [] := List.eq_nil_of_length_eq_zero h0
    subst this
    exact (Try.slices_SortFunc_none p c _ w).mono fun e w' ⟨he, hw⟩ => ⟨he, [], .refl _, .nil, by rw [hw]; exact ho, by rw [hw]; exact .refl _ _⟩
  rcases ho.2 with ⟨_, hz⟩ | ⟨g, cap, cur, he, hbase, hg, hcap, hmax, hcs, _⟩
  · omega
  simp only [Value.slice.injEq, true_and] at he
  obtain ⟨rfl, rfl⟩ := he
  have hcell : ∀ k x, cs[k]? = some x → ∀ j v, (cxC x)[j]? = some v → w.cell? ⟨g, k * 42 + j, none⟩ = some v := fun k x hk j v hv => by
    have hj : j < 42 := by rw [← cxC_length x]; exact (List.getElem?_eq_some_iff.1 hv).1
    obtain ⟨g', e', hc⟩ := own_cellL ho (i := k * 42 + j) (v := v) (by rw [flat_get cxC 42 cs k x j (fun y _ => cxC_length y) hk hj]; exact hv)
    simp only [Option.some.injEq, Addr.mk.injEq, and_true] at e'
    subst e'
    exact hc
  have key : ∀ (d : Array CX) (t : Nat), t < d.size * 42 → ∃ x v, d[t / 42]? = some x ∧ (cxC x)[t % 42]? = some v ∧ (flatK cxC 42 d)[t]! = v := fun d t ht => by
    have h1 : t / 42 < d.size := by omega
    have h2 : t % 42 < (cxC d[t / 42]!).length := by rw [cxC_length]; omega
    refine ⟨d[t / 42]!, (cxC d[t / 42]!)[t % 42], ?_, List.getElem?_eq_getElem h2, ?_⟩
    · rw [Array.getElem?_eq_getElem h1, getElem!_pos d _ h1]
    · rw [get_flatK cxC 42 d t ht, getElem!_pos (cxC d[t / 42]!) (t % 42) h2]
  have hH : HoldsK cxC 42 w g 0 cs.toArray := by
    intro t ht
    rw [size_flatK] at ht
    obtain ⟨x, v, h1, h2, h3⟩ := key cs.toArray t ht
    refine ⟨?_, frozen_block hg _⟩
    rw [h3, Nat.zero_add]
    have := hcell (t / 42) x (by simpa using h1) (t % 42) v h2
    rw [show t / 42 * 42 + t % 42 = t by omega] at this
    exact this
  have eg : ∀ args w, (callFunc 52 args).run Try.prog w = .ok (.enter 52 args) w := enters_of Try.func52 (by kernel_rfl) rfl
  have hcmp : CmpLays Try.prog 52 #[] cxC 42 cfX g 0 cs.toArray.size w := fun m os dk _ x y => (ecmp_any x y _).mono fun e w' ⟨he, hk, hd⟩ => ⟨he, grow_of hk hd⟩
  have hS := AnyQ.slices_SortFunc (α := CX) Try.laysSlF06_f51 42 Try.isAgg109 Try.sizeOf109 cxC cxC_length cxC_one cfX cfX_ord.swo 52 #[] g 0 c cs.toArray w eg hcmp hH (block_lt hg) (by simp; omega)
  change Calls Try.prog 51 #[.slice (some ⟨g, 0, none⟩) cs.length c, .func (.func 52) #[] #[]] w _ at hS
  refine hS.mono fun e w' ⟨he, d', m, os, hperm, hsort, hw⟩ => ?_
  have hs1 : d'.size = cs.length := by simpa using hperm.1
  have hp : d'.toList.Perm cs := by
    have h1 := hperm.1
    have h2 := hperm.2.2
    rw [show d'.extract 0 cs.toArray.size = d' from by rw [← h1]; exact Array.extract_size] at h2
    rw [show cs.toArray.extract 0 cs.toArray.size = cs.toArray from Array.extract_size] at h2
    exact h2
  have hlen : d'.toList.length = cs.length := hp.length_eq
  refine ⟨he, d'.toList, hp, ?_, ?_, ?_⟩
  · rw [List.pairwise_iff_getElem]
    intro i j hi hj hij
    have := hsort i j (Nat.zero_le _) hij (by simp only [List.size_toArray]; omega)
    have e1 : d'[i]! = d'.toList[i] := by
      rw [getElem!_pos d' i (by simpa using hi)]
      simp
    have e2 : d'[j]! = d'.toList[j] := by
      rw [getElem!_pos d' j (by simpa using hj)]
      simp
    rw [e1, e2] at this
    intro hc
    have h3 : decide (cfX d'.toList[j] d'.toList[i] < 0) = true := decide_eq_true hc
    rw [show ltOf cfX d'.toList[j] d'.toList[i] = decide (cfX d'.toList[j] d'.toList[i] < 0) from rfl, h3] at this
    cases this
  · obtain ⟨cur', hc1, hc2⟩ := sortW_blk cxC 42 w g 0 m d' os hg
    refine ⟨cxC_flat _, .inr ⟨g, c, cur', by rw [hlen], hbase, by rw [hw]; exact hc2, by omega, hmax, by rw [hc1, hcs], ?_⟩⟩
    have hHo := holdsK_sortWorldK_c cxC 42 w g 0 cs.toArray d' m os hH (block_lt hg) hperm.1
    apply List.ext_getElem?
    intro t
    rw [List.getElem?_take]
    rcases Nat.lt_or_ge t (d'.toList.length * 42) with ht | ht
    · rw [if_pos ht]
      have ht' : t < d'.size * 42 := by simpa using ht
      have h1 := (hHo t (by rw [size_flatK]; exact ht')).1
      obtain ⟨x', v', h3, h4, h5⟩ := key d' t ht'
      rw [h5, Nat.zero_add, cell_block hc2] at h1
      rw [Array.getElem?_toList, h1]
      have := flat_get cxC 42 d'.toList (t / 42) x' (t % 42) (fun y _ => cxC_length y) (by simpa using h3) (by omega)
      rw [show t / 42 * 42 + t % 42 = t by omega] at this
      rw [this, h4]
      rfl
    · rw [if_neg (by omega), List.getElem?_eq_none (by rw [cxC_flat]; exact ht)]
  · rw [hw]
    exact (sortW_kp cxC 42 w g 0 m d' os).mono fun i _ e => by rw [e]; rfl

end Go.Proofs.Ytmjanmffnblcoaa

/- The formulas of functions by the symbolic evaluator, and that each gives the call's contract. Written by a program (gen.py). No condition. -/
namespace Go.Proofs.Ytmjanmffnblcoaa
set_option maxRecDepth 100000
set_option linter.unusedVariables false

def VC_echeckA (p : Option Addr) (n : Nat) (c : Nat) (w : World) (R : Ending → World → Prop) : Prop :=
 ∀ (n_1 : Nat) (w1 : World),
 NewB w (Obj.map #[] 0) n_1 w1 →
 KeptL [] w w1 ∧
 ∃ (I : List Value → World → Prop),
 ∃ (m : List Value → World → Nat),
 I [Value.int IntKind.i64 0] w1 ∧
 ∀ (x : Int) (w' : World),
 I [Value.int IntKind.i64 x] w' →
 bsp (decide (x < (↑n : Int)))
 (nn true p fun (b o : Nat) =>
 (0 ≤ x ∧ x < (↑n : Int)) ∧
 ∃ (f : Nat → Int),
 ∃ (x_1 : Int),
 ∃ (x_2 : Int),
 ∃ (p : Option Addr),
 ∃ (n : Nat),
 ∃ (c : Nat),
 ∃ (x_3 : Int),
 ∃ (x_4 : Int),
 ∃ (p_1 : Option Addr),
 ∃ (n_2 : Nat),
 ∃ (c_1 : Nat),
 ∃ (x_5 : Bool),
 AtL w' b (o + x.toNat * 39)
 (arrI IntKind.u8 f 32 0 ++ [Value.int IntKind.i64 x_1,
 Value.int IntKind.i64 x_2, Value.slice p n c, Value.int IntKind.i64 x_3,
 Value.int IntKind.i64 x_4, Value.slice p_1 n_2 c_1, Value.bool x_5]) ∧
 ∀ (n_3 : Nat),
 ∃ (x_6 : Int),
 gimp (!!minB x_1)
 (∀ (W : World),
 Loc w.heap.size
 [Blk.mk n_3 42
 (arrI IntKind.u8 f 32 0 ++ [Value.int IntKind.i64 x_1,
 Value.int IntKind.i64 x_2, Value.slice p n c, Value.int IntKind.i64 x_3,
 Value.int IntKind.i64 x_4, Value.slice p_1 n_2 c_1, Value.bool x_5])
 (wrM 2)]
 w' W →
 W.cell? (Addr.mk n_3 (0 + 33) none) = some (Value.int IntKind.i64 x_6)) ∧
 ∃ (x_7 : Int),
 gimp (!(!minB x_1 || !minB x_6))
 (∀ (W : World),
 Loc w.heap.size
 [Blk.mk n_3 42
 (arrI IntKind.u8 f 32 0 ++ [Value.int IntKind.i64 x_1, Value.int IntKind.i64 x_2,
 Value.slice p n c, Value.int IntKind.i64 x_3, Value.int IntKind.i64 x_4,
 Value.slice p_1 n_2 c_1, Value.bool x_5])
 (wrM 2)]
 w' W →
 W.cell? (Addr.mk n_3 (0 + 35) none) = some (Value.int IntKind.i64 x_7)) ∧
 ∃ (x_8 : Int),
 gimp (!(!minB x_1 || !minB x_6 || decide (x_7 < 0)))
 (∀ (W : World),
 Loc w.heap.size
 [Blk.mk n_3 42
 (arrI IntKind.u8 f 32 0 ++ [Value.int IntKind.i64 x_1, Value.int IntKind.i64 x_2, Value.slice p n c,
 Value.int IntKind.i64 x_3, Value.int IntKind.i64 x_4, Value.slice p_1 n_2 c_1,
 Value.bool x_5])
 (wrM 2)]
 w' W →
 W.cell? (Addr.mk n_3 (0 + 35) none) = some (Value.int IntKind.i64 x_8)) ∧
 ∃ (x_9 : Int),
 gimp (!(!minB x_1 || !minB x_6 || decide (x_7 < 0) || decide (x_8 > 1099511627776)))
 (∀ (W : World),
 Loc w.heap.size
 [Blk.mk n_3 42
 (arrI IntKind.u8 f 32 0 ++ [Value.int IntKind.i64 x_1, Value.int IntKind.i64 x_2, Value.slice p n c,
 Value.int IntKind.i64 x_3, Value.int IntKind.i64 x_4, Value.slice p_1 n_2 c_1,
 Value.bool x_5])
 (wrM 2)]
 w' W →
 W.cell? (Addr.mk n_3 (0 + 36) none) = some (Value.int IntKind.i64 x_9)) ∧
 ∃ (x_10 : Int),
 gimp
 (!(!minB x_1 || !minB x_6 || decide (x_7 < 0) || decide (x_8 > 1099511627776) ||
 decide (x_9 < 0)))
 (∀ (W : World),
 Loc w.heap.size
 [Blk.mk n_3 42
 (arrI IntKind.u8 f 32 0 ++ [Value.int IntKind.i64 x_1, Value.int IntKind.i64 x_2, Value.slice p n c,
 Value.int IntKind.i64 x_3, Value.int IntKind.i64 x_4, Value.slice p_1 n_2 c_1,
 Value.bool x_5])
 (wrM 2)]
 w' W →
 W.cell? (Addr.mk n_3 (0 + 36) none) = some (Value.int IntKind.i64 x_10)) ∧
 bsp
 (!minB x_1 || !minB x_6 || decide (x_7 < 0) || decide (x_8 > 1099511627776) ||
 decide (x_9 < 0) ||
 decide (x_10 > 5))
 (∀ (W : World),
 Loc w.heap.size
 [Blk.mk n_3 42
 (arrI IntKind.u8 f 32 0 ++ [Value.int IntKind.i64 x_1, Value.int IntKind.i64 x_2, Value.slice p n c,
 Value.int IntKind.i64 x_3, Value.int IntKind.i64 x_4, Value.slice p_1 n_2 c_1,
 Value.bool x_5])
 (wrM 2)]
 w' W →
 R (Ending.returned (Value.int IntKind.i64 2)) W)
 (∃ (x_11 : Bool),
 (∀ (W : World),
 Loc w.heap.size
 [Blk.mk n_3 42
 (arrI IntKind.u8 f 32 0 ++ [Value.int IntKind.i64 x_1, Value.int IntKind.i64 x_2, Value.slice p n c,
 Value.int IntKind.i64 x_3, Value.int IntKind.i64 x_4,
 Value.slice p_1 n_2 c_1, Value.bool x_5])
 (wrM 2)]
 w' W →
 LookP Try.prog 97 (Value.map (some n_1))
 (Value.agg
 (arrI IntKind.u8 f 32 0).toArray)
 false (Value.bool x_11) W) ∧
 bsp x_11
 (∀ (W : World),
 Loc w.heap.size
 [Blk.mk n_3 42
 (arrI IntKind.u8 f 32 0 ++ [Value.int IntKind.i64 x_1, Value.int IntKind.i64 x_2, Value.slice p n c,
 Value.int IntKind.i64 x_3, Value.int IntKind.i64 x_4,
 Value.slice p_1 n_2 c_1, Value.bool x_5])
 (wrM 2)]
 w' W →
 R (Ending.returned (Value.int IntKind.i64 7)) W)
 (∀ (W : World),
 Loc w.heap.size
 [Blk.mk n_3 42
 (arrI IntKind.u8 f 32 0 ++ [Value.int IntKind.i64 x_1, Value.int IntKind.i64 x_2, Value.slice p n c,
 Value.int IntKind.i64 x_3, Value.int IntKind.i64 x_4,
 Value.slice p_1 n_2 c_1, Value.bool x_5])
 (wrM 2)]
 w' W →
 ∃ (w1 : World),
 UpdP Try.prog 97 (Value.map (some n_1))
 (Value.agg
 (arrI IntKind.u8 f 32 0).toArray)
 (Value.bool true) W w1 ∧
 KeptL [n_3] W w1 ∧
 I [Value.int IntKind.i64 (IntKind.i64.wrap (x + 1))] w1 ∧
 m [Value.int IntKind.i64 (IntKind.i64.wrap (x + 1))] w1 <
 m [Value.int IntKind.i64 x] w')))
 (R (Ending.returned (Value.int IntKind.i64 0)) w')
theorem vc_echeckA (p : Option Addr) (n : Nat) (c : Nat) (w : World) (R : Ending → World → Prop) (h : VC_echeckA p n c w R) : Calls Try.prog 30 ([Value.slice
    p n c] : List Value).toArray w R := by
  have e : execR2 { P := Try.prog, loops := [(3, [(9, Ck.int IntKind.i64)])], pur := pur2, tails := [], joins := [], boxes := [] } Try.f30.results.toList R (Try.f30.body.getD .skip) (initF [Value.slice
    p n c] (Try.f30.ntmps - ([Value.slice p n c] : List Value).length)) w = VC_echeckA p n c w R := by kernel_rfl
  have hb : Try.f30.body = some (Try.f30.body.getD .skip) := by kernel_rfl
  exact calls_of_exec2' (P := Try.prog) (fn := Try.f30) (c := Try.f30.body.getD .skip) (args := [Value.slice p n
    c]) (w := w) (R := R) pur2_ok Try.func30 hb e h

def VC_enewP (p : Option Addr) (n : Nat) (c : Nat) (q : Option Addr) (k : Nat) (d : Nat) (p3 : Option Addr) (n3 : Nat) (c3 : Nat) (now : Int) (budget : Int) (w : World) (R : Ending → World → Prop) : Prop :=
 ∀ (n_1 : Nat) (W : World),
 Loc w.heap.size [Blk.mk n_1 72 [Value.slice p n c, Value.slice q k d] 2] w W →
 ∀ (n_2 : Nat) (w1 : World),
 NewB W (Obj.map #[] 0) n_2 w1 →
 KeptL [n_1] W w1 ∧
 ∀ (n_3 : Nat) (W : World),
 Loc w.heap.size
 [Blk.mk n_3 106
 [Value.slice none 0 0, Value.map (some n_2), Value.int IntKind.i64 0, Value.int IntKind.i64 budget] 2,
 Blk.mk n_1 72 [Value.slice p n c, Value.slice q k d] 0]
 w1 W →
 ∃ (I : List Value → World → Prop),
 ∃ (m : List Value → World → Nat),
 I [Value.int IntKind.i64 0] W ∧
 ∀ (x : Int) (w' : World),
 I [Value.int IntKind.i64 x] w' →
 Loc w.heap.size [Blk.mk n_1 72 [Value.slice p n c, Value.slice q k d] 0] w' w' →
 bsp (decide (x < (↑n3 : Int)))
 (nn true p3 fun (b o : Nat) =>
 (0 ≤ x ∧ x < (↑n3 : Int)) ∧
 ∃ (f : Nat → Int),
 ∃ (x_1 : Int),
 ∃ (x_2 : Int),
 ∃ (p_1 : Option Addr),
 ∃ (n_4 : Nat),
 ∃ (c_1 : Nat),
 ∃ (x_3 : Int),
 ∃ (x_4 : Int),
 ∃ (p_2 : Option Addr),
 ∃ (n_5 : Nat),
 ∃ (c_2 : Nat),
 ∃ (x_5 : Bool),
 AtL w' b (o + x.toNat * 39)
 (arrI IntKind.u8 f 32 0 ++ [Value.int IntKind.i64 x_1,
 Value.int IntKind.i64 x_2, Value.slice p_1 n_4 c_1, Value.int IntKind.i64 x_3,
 Value.int IntKind.i64 x_4, Value.slice p_2 n_5 c_2, Value.bool x_5]) ∧
 ∀ (n_6 : Nat) (W : World),
 Loc w.heap.size
 [Blk.mk n_1 72 [Value.slice p n c, Value.slice q k d] 0,
 Blk.mk n_6 42
 (arrI IntKind.u8 f 32 0 ++ [Value.int IntKind.i64 x_1,
 Value.int IntKind.i64 x_2, Value.slice p_1 n_4 c_1, Value.int IntKind.i64 x_3,
 Value.int IntKind.i64 x_4, Value.slice p_2 n_5 c_2, Value.bool x_5])
 (wrM 2)]
 w' W →
 CallsS Try.prog 38
 #[Value.agg #[Value.slice p n c, Value.slice q k d],
 Value.agg
 (arrI IntKind.u8 f 32 0 ++ [Value.int IntKind.i64 x_1, Value.int IntKind.i64 x_2,
 Value.slice p_1 n_4 c_1, Value.int IntKind.i64 x_3, Value.int IntKind.i64 x_4,
 Value.slice p_2 n_5 c_2, Value.bool x_5]).toArray]
 W fun (e : Ending) (w'_1 : World) =>
 ∃ (x_6 : Int),
 ∃ (x_7 : Int),
 e =
 Ending.returned
 (Value.tuple #[Value.int IntKind.i64 x_6, Value.int IntKind.i64 x_7]) ∧
 KeptL [n_1, n_6] W w'_1 ∧
 ∃ (J : List Value → World → Prop),
 (∀ (W : World),
 Loc w.heap.size
 [Blk.mk n_1 72 [Value.slice p n c, Value.slice q k d] 0,
 Blk.mk n_6 42
 (arrI IntKind.u8 f 32 0 ++ [Value.int IntKind.i64 x_1, Value.int IntKind.i64 x_2,
 Value.slice p_1 n_4 c_1, Value.int IntKind.i64 x_3,
 Value.int IntKind.i64 x_4, Value.slice p_2 n_5 c_2, Value.bool x_5])
 0]
 w'_1 W →
 ∃ (S : World → Prop),
 S W ∧
 ∃ (p : Option Addr),
 ∃ (n : Nat),
 ∃ (c : Nat),
 (∀ (w' : World),
 S w' → w'.cell? (Addr.mk n_3 0 none) = some (Value.slice p n c)) ∧
 ∃ (f : Nat → Int),
 ∃ (x : Int),
 ∃ (x_8 : Int),
 ∃ (p_3 : Option Addr),
 ∃ (n_7 : Nat),
 ∃ (c_3 : Nat),
 ∃ (x_9 : Int),
 ∃ (x_10 : Int),
 ∃ (p_4 : Option Addr),
 ∃ (n_8 : Nat),
 ∃ (c_4 : Nat),
 ∃ (x_11 : Bool),
 (∀ (w' : World),
 S w' →
 AtL w' n_6 0
 (arrI IntKind.u8 f 32 0 ++ [Value.int IntKind.i64 x, Value.int IntKind.i64 x_8,
 Value.slice p_3 n_7 c_3, Value.int IntKind.i64 x_9,
 Value.int IntKind.i64 x_10, Value.slice p_4 n_8 c_4,
 Value.bool x_11])) ∧
 ∃ (x_12 : Int),
 (∀ (w' : World),
 S w' →
 w'.cell? (Addr.mk n_6 (0 + 36) none) =
 some (Value.int IntKind.i64 x_12)) ∧
 ∃ (x_13 : Int),
 (∀ (w' : World),
 S w' →
 w'.cell? (Addr.mk n_6 (0 + 33) none) =
 some (Value.int IntKind.i64 x_13)) ∧
 ∃ (x_14 : Int),
 (∀ (w' : World),
 S w' →
 w'.cell? (Addr.mk n_6 (0 + 33) none) =
 some (Value.int IntKind.i64 x_14)) ∧
 S W ∧
 ∃ (f_1 : Nat → Int),
 ∃ (x_15 : Int),
 ∃ (x_16 : Int),
 ∃ (p_5 : Option Addr),
 ∃ (n_9 : Nat),
 ∃ (c_5 : Nat),
 ∃ (x_17 : Int),
 ∃ (x_18 : Int),
 ∃ (p_6 : Option Addr),
 ∃ (n_10 : Nat),
 ∃ (c_6 : Nat),
 ∃ (x_19 : Bool),
 gimp (!permC x_12)
 (∀ (w' : World),
 S w' →
 AtL w' n_6 0
 (arrI IntKind.u8 f_1 32 0 ++ [Value.int IntKind.i64 x_15,
 Value.int IntKind.i64 x_16,
 Value.slice p_5 n_9 c_5,
 Value.int IntKind.i64 x_17,
 Value.int IntKind.i64 x_18,
 Value.slice p_6 n_10 c_6,
 Value.bool x_19])) ∧
 bsp (!permC x_12)
 (CallsS Try.prog 49
 #[Value.agg
 (arrI IntKind.u8 f_1 32 0 ++ [Value.int IntKind.i64 x_15,
 Value.int IntKind.i64 x_16,
 Value.slice p_5 n_9 c_5,
 Value.int IntKind.i64 x_17,
 Value.int IntKind.i64 x_18,
 Value.slice p_6 n_10 c_6,
 Value.bool x_19]).toArray]
 W fun (e : Ending) (w' : World) =>
 ∃ (x_20 : Bool),
 e =
 Ending.returned (Value.bool x_20) ∧
 S w' ∧
 ∃ (f_2 : Nat → Int),
 ∃ (x_21 : Int),
 ∃ (x_22 : Int),
 ∃ (p_7 : Option Addr),
 ∃ (n_11 : Nat),
 ∃ (c_7 : Nat),
 ∃ (x_23 : Int),
 ∃ (x_24 : Int),
 ∃ (p_8 : Option Addr),
 ∃ (n_12 : Nat),
 ∃ (c_8 : Nat),
 ∃ (x_25 : Bool),
 gimp (!false && x_20)
 (∀ (w' : World),
 S w' →
 AtL w' n_6 0
 (arrI IntKind.u8 f_2 32 0 ++ [Value.int
 IntKind.i64 x_21,
 Value.int
 IntKind.i64 x_22,
 Value.slice p_7
 n_11 c_7,
 Value.int
 IntKind.i64 x_23,
 Value.int
 IntKind.i64 x_24,
 Value.slice p_8
 n_12 c_8,
 Value.bool
 x_25])) ∧
 bsp x_20
 (CallsS Try.prog 50
 #[Value.agg
 (arrI IntKind.u8 f_2 32 0 ++ [Value.int
 IntKind.i64 x_21,
 Value.int
 IntKind.i64 x_22,
 Value.slice p_7
 n_11 c_7,
 Value.int
 IntKind.i64 x_23,
 Value.int
 IntKind.i64 x_24,
 Value.slice p_8
 n_12 c_8,
 Value.bool x_25]).toArray]
 w'
 fun (e : Ending)
 (w' : World) =>
 ∃ (x_26 : Int),
 e =
 Ending.returned
 (Value.int
 IntKind.i64
 x_26) ∧
 S w' ∧
 ∀ (n_13 : Nat)
 (w1 : World),
 NewB w'
 (Obj.cells
 (arrI IntKind.u8 f 32 0 ++ [Value.int
 IntKind.i64
 x,
 Value.int
 IntKind.i64
 x_8,
 Value.slice
 p_3 n_7 c_3,
 Value.int
 IntKind.i64
 x_9,
 Value.int
 IntKind.i64
 x_10,
 Value.slice
 p_4 n_8 c_4,
 Value.bool
 x_11,
 Value.bool
 (false ||
 true &&
 decide
 (now ≤
 x_26)),
 Value.bool
 (decide
 (now ≥
 IntKind.i64.wrap
 (x_13 +
 IntKind.i64.wrap
 (x_7 *
 1440)))),
 Value.bool
 (decide
 (now ≥
 IntKind.i64.wrap
 (x_14 +
 IntKind.i64.wrap
 (x_6 *
 1440))))]).toArray
 109)
 n_13 w1 →
 S w1 ∧
 ∃ (base : Nat),
 ∃ (xs :
 List Value),
 ∃ (news :
 List Value),
 w1.ownsRow
 base 109
 42
 (Value.slice
 p n c)
 n xs ∧
 news.length =
 42 ∧
 SrcP w1
 (some
 (Addr.mk
 n_13 0
 none))
 news ∧
 n + 1 ≤
 9223372036854775807 ∧
 (n +
 1) *
 128 ≤
 140737488355328 ∧
 base ≤
 w1.heap.size ∧
 ∀
 (p' :
 Option
 Addr)
 (c' :
 Nat)
 (w' :
 World),
 w'.ownsRow
 base
 109
 42
 (Value.slice
 p'
 (n +
 1)
 c')
 (n +
 1)
 (xs ++
 news) →
 w1.grownBy
 w'
 (Value.slice
 p
 n
 c).ownBlock →
 (n +
 1 ≤
 c →
 p' =
 p ∧
 c' =
 c) →
 ((∃
 (u
 :
 Value),
 w'.cell?
 (Addr.mk
 n_3
 0
 none) =
 some
 u) ∧
 w'.frozen?
 (Addr.mk
 n_3
 0
 none) =
 false) ∧
 ∀
 (w1 :
 World),
 PutB
 w'
 n_3
 0
 [Value.slice
 p'
 (n +
 1)
 c']
 w1 →
 KeptL
 [n_1,
 n_6]
 W
 w1 ∧
 J
 []
 w1)
 (S w' ∧
 ∀ (n_13 : Nat)
 (w1 : World),
 NewB w'
 (Obj.cells
 (arrI IntKind.u8 f 32 0 ++ [Value.int
 IntKind.i64 x,
 Value.int
 IntKind.i64
 x_8,
 Value.slice p_3
 n_7 c_3,
 Value.int
 IntKind.i64
 x_9,
 Value.int
 IntKind.i64
 x_10,
 Value.slice p_4
 n_8 c_4,
 Value.bool x_11,
 Value.bool
 (false ||
 false),
 Value.bool
 (decide
 (now ≥
 IntKind.i64.wrap
 (x_13 +
 IntKind.i64.wrap
 (x_7 *
 1440)))),
 Value.bool
 (decide
 (now ≥
 IntKind.i64.wrap
 (x_14 +
 IntKind.i64.wrap
 (x_6 *
 1440))))]).toArray
 109)
 n_13 w1 →
 S w1 ∧
 ∃ (base : Nat),
 ∃ (xs :
 List Value),
 ∃ (news :
 List Value),
 w1.ownsRow base
 109 42
 (Value.slice
 p n c)
 n xs ∧
 news.length =
 42 ∧
 SrcP w1
 (some
 (Addr.mk
 n_13 0
 none))
 news ∧
 n + 1 ≤
 9223372036854775807 ∧
 (n + 1) *
 128 ≤
 140737488355328 ∧
 base ≤
 w1.heap.size ∧
 ∀
 (p' :
 Option
 Addr)
 (c' :
 Nat)
 (w' :
 World),
 w'.ownsRow
 base
 109 42
 (Value.slice
 p'
 (n +
 1)
 c')
 (n +
 1)
 (xs ++
 news) →
 w1.grownBy
 w'
 (Value.slice
 p n
 c).ownBlock →
 (n +
 1 ≤
 c →
 p' =
 p ∧
 c' =
 c) →
 ((∃
 (u
 :
 Value),
 w'.cell?
 (Addr.mk
 n_3
 0
 none) =
 some
 u) ∧
 w'.frozen?
 (Addr.mk
 n_3
 0
 none) =
 false) ∧
 ∀
 (w1 :
 World),
 PutB
 w'
 n_3
 0
 [Value.slice
 p'
 (n +
 1)
 c']
 w1 →
 KeptL
 [n_1,
 n_6]
 W
 w1 ∧
 J
 []
 w1))
 (S W ∧
 S W ∧
 ∀ (n_11 : Nat) (w1 : World),
 NewB W
 (Obj.cells
 (arrI IntKind.u8 f 32 0 ++ [Value.int IntKind.i64 x,
 Value.int IntKind.i64 x_8,
 Value.slice p_3 n_7 c_3,
 Value.int IntKind.i64 x_9,
 Value.int IntKind.i64 x_10,
 Value.slice p_4 n_8 c_4,
 Value.bool x_11, Value.bool true,
 Value.bool
 (decide
 (now ≥
 IntKind.i64.wrap
 (x_13 +
 IntKind.i64.wrap
 (x_7 * 1440)))),
 Value.bool
 (decide
 (now ≥
 IntKind.i64.wrap
 (x_14 +
 IntKind.i64.wrap
 (x_6 * 1440))))]).toArray
 109)
 n_11 w1 →
 S w1 ∧
 ∃ (base : Nat),
 ∃ (xs : List Value),
 ∃ (news : List Value),
 w1.ownsRow base 109 42
 (Value.slice p n c) n xs ∧
 news.length = 42 ∧
 SrcP w1
 (some (Addr.mk n_11 0 none))
 news ∧
 n + 1 ≤ 9223372036854775807 ∧
 (n + 1) * 128 ≤
 140737488355328 ∧
 base ≤ w1.heap.size ∧
 ∀ (p' : Option Addr)
 (c' : Nat) (w' : World),
 w'.ownsRow base 109 42
 (Value.slice p' (n + 1)
 c')
 (n + 1) (xs ++ news) →
 w1.grownBy w'
 (Value.slice p n
 c).ownBlock →
 (n + 1 ≤ c →
 p' = p ∧ c' = c) →
 ((∃ (u : Value),
 w'.cell?
 (Addr.mk n_3 0
 none) =
 some u) ∧
 w'.frozen?
 (Addr.mk n_3 0
 none) =
 false) ∧
 ∀ (w1 : World),
 PutB w' n_3 0
 [Value.slice p'
 (n + 1) c']
 w1 →
 KeptL [n_1, n_6] W
 w1 ∧
 J [] w1)) ∧
 ∀ (w'_2 : World),
 J [] w'_2 →
 Loc w.heap.size
 [Blk.mk n_1 72 [Value.slice p n c, Value.slice q k d] 0,
 Blk.mk n_6 42
 (arrI IntKind.u8 f 32 0 ++ [Value.int IntKind.i64 x_1, Value.int IntKind.i64 x_2,
 Value.slice p_1 n_4 c_1, Value.int IntKind.i64 x_3,
 Value.int IntKind.i64 x_4, Value.slice p_2 n_5 c_2, Value.bool x_5])
 0]
 w'_2 w'_2 →
 ∃ (x_8 : Option Nat),
 (∀ (W : World),
 Loc w.heap.size
 [Blk.mk n_1 72 [Value.slice p n c, Value.slice q k d] 0,
 Blk.mk n_6 42
 (arrI IntKind.u8 f 32 0 ++ [Value.int IntKind.i64 x_1, Value.int IntKind.i64 x_2,
 Value.slice p_1 n_4 c_1, Value.int IntKind.i64 x_3,
 Value.int IntKind.i64 x_4, Value.slice p_2 n_5 c_2, Value.bool x_5])
 0]
 w'_2 W →
 W.cell? (Addr.mk n_3 (0 + 1) none) = some (Value.map x_8)) ∧
 ∀ (W : World),
 Loc w.heap.size
 [Blk.mk n_1 72 [Value.slice p n c, Value.slice q k d] 0,
 Blk.mk n_6 42
 (arrI IntKind.u8 f 32 0 ++ [Value.int IntKind.i64 x_1, Value.int IntKind.i64 x_2,
 Value.slice p_1 n_4 c_1, Value.int IntKind.i64 x_3,
 Value.int IntKind.i64 x_4, Value.slice p_2 n_5 c_2, Value.bool x_5])
 0]
 w'_2 W →
 ∃ (w1 : World),
 UpdP Try.prog 97 (Value.map x_8)
 (Value.agg
 (arrI IntKind.u8 f 32 0).toArray)
 (Value.bool true) W w1 ∧
 KeptL [n_1, n_6] W w1 ∧
 ∃ (x_9 : Int),
 (∀ (W : World),
 Loc w.heap.size
 [Blk.mk n_1 72 [Value.slice p n c, Value.slice q k d] 0,
 Blk.mk n_6 42
 (arrI IntKind.u8 f 32 0 ++ [Value.int IntKind.i64 x_1, Value.int IntKind.i64 x_2,
 Value.slice p_1 n_4 c_1, Value.int IntKind.i64 x_3,
 Value.int IntKind.i64 x_4, Value.slice p_2 n_5 c_2,
 Value.bool x_5])
 0]
 w1 W →
 W.cell? (Addr.mk n_3 (0 + 2) none) =
 some (Value.int IntKind.i64 x_9)) ∧
 ∀ (W : World),
 Loc w.heap.size
 [Blk.mk n_1 72 [Value.slice p n c, Value.slice q k d] 0,
 Blk.mk n_6 42
 (arrI IntKind.u8 f 32 0 ++ [Value.int IntKind.i64 x_1, Value.int IntKind.i64 x_2,
 Value.slice p_1 n_4 c_1, Value.int IntKind.i64 x_3,
 Value.int IntKind.i64 x_4, Value.slice p_2 n_5 c_2,
 Value.bool x_5])
 0]
 w1 W →
 ((∃ (u : Value), W.cell? (Addr.mk n_3 (0 + 2) none) = some u) ∧
 W.frozen? (Addr.mk n_3 (0 + 2) none) = false) ∧
 ∀ (w1 : World),
 PutB W n_3 (0 + 2)
 [Value.int IntKind.i64 (IntKind.i64.wrap (x_9 + x_3))] w1 →
 KeptL [n_1, n_6] W w1 ∧
 I [Value.int IntKind.i64 (IntKind.i64.wrap (x + 1))] w1 ∧
 m [Value.int IntKind.i64 (IntKind.i64.wrap (x + 1))] w1 <
 m [Value.int IntKind.i64 x] w')
 (∃ (p : Option Addr),
 ∃ (n : Nat),
 ∃ (c : Nat),
 w'.cell? (Addr.mk n_3 0 none) = some (Value.slice p n c) ∧
 CallsS Try.prog 51 #[Value.slice p n c, Value.func (Fn.func 52) #[] #[]] w'
 fun (e : Ending) (w'_1 : World) =>
 e = Ending.returned (Value.tuple #[]) ∧
 KeptL [n_1] w' w'_1 ∧ R (Ending.returned (Value.pointer (some (Addr.mk n_3 0 none)))) w'_1)
theorem vc_enewP (p : Option Addr) (n : Nat) (c : Nat) (q : Option Addr) (k : Nat) (d : Nat) (p3 : Option Addr) (n3 : Nat) (c3 : Nat) (now : Int) (budget : Int) (w : World) (R : Ending → World → Prop) (h : VC_enewP p n c q k d p3 n3 c3 now budget w R) : Calls Try.prog 31 ([Value.agg
    #[Value.slice p n c, Value.slice q k d],
  Value.slice p3 n3 c3, Value.int IntKind.i64 now, Value.int IntKind.i64 budget] : List Value).toArray w R := by
  have e : execR2 { P := Try.prog, loops := [(3, [(20, Ck.int IntKind.i64)])], pur := pur2, tails := [(6, 11), (7, 6), (8, 9)], joins := [(7, [])], boxes := [] } Try.f31.results.toList R (Try.f31.body.getD .skip) (initF [Value.agg
    #[Value.slice p n c, Value.slice q k d],
  Value.slice p3 n3 c3, Value.int IntKind.i64 now,
  Value.int IntKind.i64
    budget] (Try.f31.ntmps - ([Value.agg #[Value.slice p n c, Value.slice q k d], Value.slice p3 n3 c3,
  Value.int IntKind.i64 now,
  Value.int IntKind.i64 budget] : List Value).length)) w = VC_enewP p n c q k d p3 n3 c3 now budget w R := by kernel_rfl
  have hb : Try.f31.body = some (Try.f31.body.getD .skip) := by kernel_rfl
  exact calls_of_exec2' (P := Try.prog) (fn := Try.f31) (c := Try.f31.body.getD .skip) (args := [Value.agg
    #[Value.slice p n c, Value.slice q k d],
  Value.slice p3 n3 c3, Value.int IntKind.i64 now,
  Value.int IntKind.i64 budget]) (w := w) (R := R) pur2_ok Try.func31 hb e h

end Go.Proofs.Ytmjanmffnblcoaa

/- Chapter 42: the contracts of checkArticles and newPlanner. No condition but sizes. -/
namespace Go.Proofs.Ytmjanmffnblcoaa
open Go.RowKit Go.Sort Go.Maps

/-! ### checkArticles -/
def arBad (a : Ar) : Bool := !minB a.date || !minB a.ar || decide (a.by_ < 0) || decide (a.by_ > 1099511627776) || decide (a.ct < 0) || decide (a.ct > 5)
/-- The first error of articles; these identities lie ahead. -/
def errA : List (List Int) → List Ar → Int
  | _, [] => 0
  | seen, a :: l => if arBad a = true then 2 else if a.id ∈ seen then 7 else errA (seen ++ [a.id]) l
def trues (l : List (List Int)) : List (List Int × Value) := l.map fun x => (x, Value.bool true)
theorem aholds_any (x : AX) (w : World) : Calls Try.prog 49 #[.agg (axC x).toArray] w fun e w' => e = .returned (.bool (x.ct != 0 || decide ((x.hs.length : Int) > 0))) ∧ K0 w w' := by
  refine vc_aholds x.id x.dt x.ar x.gp x.gs.length x.gc x.by_ x.ct x.hp x.hs.length x.hc x.wd w _ ?_
  intro n
  exact ⟨x.hp, x.hs.length, x.hc, gimp_intro fun _ W hW => cell_at (hW.cells 0 rfl) rfl, fun W hW => ⟨rfl, hW.kk rfl⟩⟩
theorem lastHeld_any (x : AX) (w : World) : Calls Try.prog 50 #[.agg (axC x).toArray] w fun e w' => e = .returned (.int .i64 (IntKind.i64.wrap (x.dt + 20160))) ∧ K0 w w' := by
  refine vc_lastHeld x.id x.dt x.ar x.gp x.gs.length x.gc x.by_ x.ct x.hp x.hs.length x.hc x.wd w _ ?_
  intro n W hW
  exact ⟨rfl, hW.kk rfl⟩
theorem byA_idI (f : Nat → Int) : byA (idI f) = .agg (arrI .u8 f 32 0).toArray := rfl
theorem aget_tr {l : List (List Int)} {a : List Int} (h : a ∈ l) : aget (trues l) a = some (Value.bool true) := by unfold trues; rw [aget_trues, if_pos h]
theorem aget_fa {l : List (List Int)} {a : List Int} (h : a ∉ l) : aget (trues l) a = none := by unfold trues; rw [aget_trues, if_neg h]
set_option maxHeartbeats 1000000 in
theorem echeckA_any (l : List AX) (p : Option Addr) (c : Nat) (w : World) (hR : RowA axC 39 w p l) (hl : l.length ≤ 1048576) (hb : ∀ x ∈ l, ∀ j, 0 ≤ x.id j ∧ x.id j ≤ 255) :
    Calls Try.prog 30 #[.slice p l.length c] w fun e w' => e = .returned (.int .i64 (errA [] (l.map AX.pl))) ∧ K0 w w' := by
  refine vc_echeckA p l.length c w _ ?_
  intro n1 w1 hn1
  have k1 : K0 w w1 := hn1.kp _
  have g1 : w.heap.size ≤ n1 := hn1.ge
  refine ⟨.of_k0 k1, fun vs w' => ∃ (i : Nat) (seen : List (List Int)), vs = [.int .i64 (i : Int)] ∧ i ≤ l.length ∧ errA seen ((l.drop i).map AX.pl) = errA [] (l.map AX.pl) ∧ MapB Try.prog 38 byA w' n1 (trues seen) ∧ K0 w w',
    fun vs _ => (match vs with | .int _ x :: _ => l.length - x.toNat | _ => 0), ⟨0, [], rfl, by omega, rfl, hn1.map, k1⟩, ?_⟩
  rintro x w2 ⟨i, seen, hv, hi, he, hm, k2⟩
  simp only [List.cons.injEq, Value.int.injEq, true_and, and_true] at hv
  subst hv
  refine bsp_intro (fun hlt => ?_) (fun hge => ?_)
  · have hlt : i < l.length := by simp at hlt; omega
    obtain ⟨y, b, o, hy, rfl, hat⟩ := (hR.k0 k2).get hlt
    have hyb := hb y (List.mem_of_getElem? hy)
    have hdr : l.drop i = y :: l.drop (i + 1) := by
      rw [List.drop_eq_getElem_cons hlt]
      rw [List.getElem?_eq_getElem hlt] at hy
      simp at hy
      rw [hy]
    rw [hdr, List.map_cons] at he
    have he' : errA seen (y.pl :: (l.drop (i + 1)).map AX.pl) = if arBad y.pl = true then 2 else if y.pl.id ∈ seen then 7 else errA (seen ++ [y.pl.id]) ((l.drop (i + 1)).map AX.pl) := rfl
    rw [he'] at he
    show (0 ≤ (i : Int) ∧ (i : Int) < (l.length : Int)) ∧ _
    rw [Int.toNat_natCast]
    refine ⟨by omega, y.id, y.dt, y.ar, y.gp, y.gs.length, y.gc, y.by_, y.ct, y.hp, y.hs.length, y.hc, y.wd, hat, fun n3 => ?_⟩
    refine ⟨y.ar, gimp_intro fun _ W hW => cell_at (hW.cells 0 rfl) rfl, y.by_, gimp_intro fun _ W hW => cell_at (hW.cells 0 rfl) rfl, y.by_, gimp_intro fun _ W hW => cell_at (hW.cells 0 rfl) rfl, y.ct, gimp_intro fun _ W hW => cell_at (hW.cells 0 rfl) rfl, y.ct, gimp_intro fun _ W hW => cell_at (hW.cells 0 rfl) rfl, ?_⟩
    refine bsp_intro (fun hbad W hW => ?_) (fun hgood => ?_)
    · have hbad : arBad y.pl = true := hbad
      rw [if_pos hbad] at he
      exact ⟨by rw [← he], k2.trans (hW.kk rfl)⟩
    · have hgood : arBad y.pl = false := hgood
      rw [if_neg (by simp [hgood])] at he
      have hkey := idKey (idI_len y.id) (idI_bd hyb)
      refine ⟨decide (idI y.id ∈ seen), fun W hW => ?_, bsp_intro (fun hin W hW => ?_) (fun hin W hW => ?_)⟩
      · have hm' := hm.kp (hW.kk rfl) (fun h => h)
        have := MapB.look byA_inj hm' idKeyed Try.underlying97 (zeroBool W) hkey false
        simp only at this
        by_cases h : idI y.id ∈ seen
        · rw [aget_tr h] at this
          rw [decide_eq_true h]
          exact this
        · rw [aget_fa h] at this
          rw [decide_eq_false h]
          exact this
      · have hin : y.pl.id ∈ seen := of_decide_eq_true hin
        rw [if_pos hin] at he
        exact ⟨by rw [← he], k2.trans (hW.kk rfl)⟩
      · have hin : y.pl.id ∉ seen := of_decide_eq_false hin
        rw [if_neg hin] at he
        have kW : K0 w2 W := hW.kk rfl
        have hm' := hm.kp kW (fun h => h)
        obtain ⟨w3, hu, hm3, k3⟩ := MapB.upd byA_inj hm' idKeyed Try.underlying97 hkey (.bool true)
        have hn3 : n3 ≠ n1 := by
          have h1 := hm'.lt
          have h2 := hW.fresh 0 rfl rfl
          have h3 := hm.lt
          simp only at h2
          omega
        refine ⟨w3, hu, .of_kp k3 (fun m hmm => by simp at hmm; omega), ⟨i + 1, seen ++ [y.pl.id], by rw [inc64 (by omega)], hlt, he, ?_, Kp.fresh (k2.trans kW) k3 (fun j hj e => by omega)⟩, by rw [inc64 (by omega)]; simp only [Int.toNat_natCast]; omega⟩
        have e : aset (trues seen) (idI y.id) (Value.bool true) = trues (seen ++ [y.pl.id]) := by
          rw [aset_new (fun p hp => ?_)]
          · unfold trues; rw [List.map_append]; rfl
          · obtain ⟨z, hz, rfl⟩ := List.mem_map.1 hp
            intro h
            simp only at h
            rw [h] at hz
            exact hin hz
        rw [← e]
        exact hm3
  · have hi : i = l.length := by simp at hge; omega
    rw [hi, List.drop_length] at he
    exact ⟨by rw [← he]; rfl, k2⟩

/-! ### newPlanner -/
def idX (y : CX) : List Int := idI y.a.id
/-- A planner in the memory; its map holds these identities. -/
structure PlR (w0 w : World) (b : Nat) (p : Option Addr) (c mb : Nat) (tot budget : Int) (l : List CX) (ids : List (List Int)) : Prop where
  blk : w.heap[b]? = some (.cells #[.slice p l.length c, .map (some mb), .int .i64 tot, .int .i64 budget] 106 (0, 0))
  own : w.ownsRow w0.heap.size 109 42 (.slice p l.length c) l.length (l.flatMap cxC)
  map : ∃ ml, MapB Try.prog 38 byA w mb ml ∧ ∀ i, (i ∈ ids → aget ml i = some (Value.bool true)) ∧ (i ∉ ids → aget ml i = none)
  art : ∀ y ∈ l, AXR w0 y.a
  k0 : K0 w0 w
  hb : w0.heap.size ≤ b
  hmb : w0.heap.size ≤ mb
theorem PlR.kp {w0 w w' : World} {b : Nat} {p : Option Addr} {c mb : Nat} {tot budget : Int} {l : List CX} {ids : List (List Int)} {M : Nat → Prop} (h : PlR w0 w b p c mb tot budget l ids) (hk : Kp M w w') (h1 : ¬ M b) (h2 : ∀ k, (Value.slice p l.length c).ownBlock = some k → ¬ M k) (h3 : ¬ M mb) (h0 : K0 w0 w') : PlR w0 w' b p c mb tot budget l ids := by
  obtain ⟨ml, hm, hi⟩ := h.map
  exact ⟨hk.blk h.blk h1, owns_kp h.own hk h2, ⟨ml, hm.kp hk h3, hi⟩, h.art, h0, h.hb, h.hmb⟩
theorem PlR.k {w0 w w' : World} {b : Nat} {p : Option Addr} {c mb : Nat} {tot budget : Int} {l : List CX} {ids : List (List Int)} (h : PlR w0 w b p c mb tot budget l ids) (hk : K0 w w') : PlR w0 w' b p c mb tot budget l ids :=
  h.kp hk (fun h => h) (fun _ _ h => h) (fun h => h) (h.k0.trans hk)
def mkC (L : List Rl) (now : Int) (x : AX) : CX := ⟨x, fixB now x.pl, overB L now x.pl, mayB L now x.pl⟩
/-- Articles as checkArticles lets them by. -/
structure ArOK (x : AX) : Prop where
  dt : 0 ≤ x.dt ∧ x.dt ≤ 105190559
  ar : 0 ≤ x.ar ∧ x.ar ≤ 105190559
  by_ : 0 ≤ x.by_ ∧ x.by_ ≤ 1099511627776
  ct : 0 ≤ x.ct ∧ x.ct ≤ 5
  gl : x.gs.length ≤ 1048576
  gz : ∀ z ∈ x.gs, z.size ≤ 9223372036854775807
  hl : x.hs.length ≤ 1048576
  id : ∀ j, 0 ≤ x.id j ∧ x.id j ≤ 255
  hs : ∀ h ∈ x.hs, ∀ j, 0 ≤ h j ∧ h j ≤ 255
def sumB (l : List AX) : Int := (l.map (·.by_)).sum
theorem sumB_snoc (l : List AX) (x : AX) : sumB (l ++ [x]) = sumB l + x.by_ := by
  unfold sumB
  rw [List.map_append, List.sum_append]
  simp
theorem sumB_bd : ∀ (l : List AX), (∀ x ∈ l, 0 ≤ x.by_ ∧ x.by_ ≤ 1099511627776) → 0 ≤ sumB l ∧ sumB l ≤ l.length * 1099511627776
  | [], _ => by simp [sumB]
  | x :: l, h => by
    have ih := sumB_bd l (fun y hy => h y (by simp [hy]))
    have := h x (by simp)
    have e : sumB (x :: l) = x.by_ + sumB l := by simp [sumB]
    rw [e, List.length_cons]
    omega

end Go.Proofs.Ytmjanmffnblcoaa

/- Chapter 42: the contract of newPlanner. No condition but sizes. -/
namespace Go.Proofs.Ytmjanmffnblcoaa
open Go.RowKit Go.Sort Go.Maps

theorem own_not {w : World} {base : Nat} {e t : TypeId} {size : Nat} {v : Value} {n : Nat} {xs : List Value} (h : w.ownsRow base e size v n xs) {k : Nat} {c : Array Value} {f : Nat × Nat} (hk : w.heap[k]? = some (.cells c t f)) (hne : (t == e) = false) : ¬ v.ownBlock = some k := fun he => by
  obtain ⟨c', h1⟩ := own_type h he
  rw [hk] at h1
  simp at h1
  rw [h1.2.1] at hne
  simp at hne
theorem own_notMap {w : World} {base : Nat} {e : TypeId} {size : Nat} {v : Value} {n : Nat} {xs : List Value} (h : w.ownsRow base e size v n xs) {k cl : Nat} {es : Array MapEntry} (hk : w.heap[k]? = some (.map es cl)) : ¬ v.ownBlock = some k := fun he => by
  obtain ⟨c', h1⟩ := own_type h he
  rw [hk] at h1
  simp at h1
theorem blk_ne {w : World} {a b : Nat} {c c' : Array Value} {t t' : TypeId} {f f' : Nat × Nat} (h : w.heap[a]? = some (.cells c t f)) (h' : w.heap[b]? = some (.cells c' t' f')) (hne : (t == t') = false) : a ≠ b := fun e => by
  subst e
  rw [h] at h'
  simp at h'
  rw [h'.2.1] at hne
  simp at hne
theorem blk_neMap {w : World} {a b cl : Nat} {c : Array Value} {t : TypeId} {f : Nat × Nat} {es : Array MapEntry} (h : w.heap[a]? = some (.cells c t f)) (h' : w.heap[b]? = some (.map es cl)) : a ≠ b := fun e => by
  subst e
  rw [h] at h'
  simp at h'
theorem cell_wr2 {w : World} {b o : Nat} {c : Array Value} {t : TypeId} {v : Value} (h : w.heap[b]? = some (.cells c t (0, 0))) (hv : c[o]? = some v) : (∃ u, w.cell? ⟨b, o, none⟩ = some u) ∧ w.frozen? ⟨b, o, none⟩ = false := ⟨⟨v, cell_at h hv⟩, frozen_block h _⟩
theorem PlR.mapAt {w0 w : World} {b : Nat} {p : Option Addr} {c mb : Nat} {tot budget : Int} {l : List CX} {ids : List (List Int)} (h : PlR w0 w b p c mb tot budget l ids) : ∃ es cl, w.heap[mb]? = some (.map es cl) := by
  obtain ⟨ml, hm, _⟩ := h.map
  obtain ⟨es, cl, h1, _⟩ := hm.blk
  exact ⟨es, cl, h1⟩

set_option maxHeartbeats 2000000 in
theorem enewP_any {N : Nat} (L : List Rl) (p : Option Addr) (c : Nat) (q : Option Addr) (d : Nat) (bs : List Nat) (l : List AX) (p3 : Option Addr) (c3 : Nat) (now budget : Int) (w : World)
    (hR : RowA rlC 3 w p L) (hP : RlsR N w q d L bs) (hb : bs.length = L.length) (hL : L.length ≤ 64) (hrl : ∀ r ∈ L, 0 ≤ r.lo ∧ r.lo ≤ r.hi ∧ r.hi ≤ 36500)
    (hA : RowA axC 39 w p3 l) (hX : ∀ x ∈ l, AXR w x) (hok : ∀ x ∈ l, ArOK x) (hl : l.length ≤ 1000) :
    Calls Try.prog 31 #[.agg #[.slice p L.length c, .slice q L.length d], .slice p3 l.length c3, .int .i64 now, .int .i64 budget] w fun e w' => ∃ (b : Nat) (p' : Option Addr) (c' mb : Nat) (hs : List CX),
      e = .returned (.pointer (some ⟨b, 0, none⟩)) ∧ PlR w w' b p' c' mb (sumB l) budget hs (l.map fun x => idI x.id) ∧ hs.Perm (l.map (mkC L now)) ∧ hs.Pairwise (fun x y => ¬ cfX y x < 0) := by
  refine vc_enewP p L.length c q L.length d p3 l.length c3 now budget w _ ?_
  intro n1 W hW n2 w1 hn2
  have kW : K0 w W := hW.kk rfl
  have k1 : K0 W w1 := hn2.kp _
  refine ⟨.of_k0 k1, fun n3 W3 hW3 => ?_⟩
  have k3 : K0 w1 W3 := hW3.kk rfl
  have kw3 : K0 w W3 := (kW.trans k1).trans k3
  have g2 : w.heap.size ≤ n2 := Nat.le_trans kW.size hn2.ge
  have g3 : w.heap.size ≤ n3 := hW3.le 0 rfl
  refine ⟨fun vs w' => ∃ (i : Nat) (p' : Option Addr) (c' : Nat), vs = [.int .i64 (i : Int)] ∧ i ≤ l.length ∧ PlR w w' n3 p' c' n2 (sumB (l.take i)) budget ((l.take i).map (mkC L now)) ((l.take i).map fun x => idI x.id),
    fun vs _ => (match vs with | .int _ x :: _ => l.length - x.toNat | _ => 0), ⟨0, none, 0, rfl, by omega, hW3.cells 0 rfl, World.ownsRow_nil _ _ _ _, ⟨[], hn2.map.kp k3 (fun h => h), fun i => ⟨(fun h => by cases h), fun _ => rfl⟩⟩, (fun y hy => by cases hy), kw3, g3, g2⟩, ?_⟩
  rintro x w4 ⟨i, p', c', hv, hi, hpl⟩ hL4
  simp only [List.cons.injEq, Value.int.injEq, true_and, and_true] at hv
  subst hv
  have kw4 := hpl.k0
  have hlen : ((l.take i).map (mkC L now)).length = i := by rw [List.length_map, List.length_take]; omega
  refine bsp_intro (fun hlt => ?_) (fun hge => ?_)
  · have hlt : i < l.length := by simp at hlt; omega
    obtain ⟨y, b, o, hy, rfl, hat⟩ := (hA.k0 kw4).get hlt
    have hyl := List.mem_of_getElem? hy
    have oky := hok y hyl
    have htk : l.take (i + 1) = l.take i ++ [y] := take_snoc hy
    show (0 ≤ (i : Int) ∧ (i : Int) < (l.length : Int)) ∧ _
    rw [Int.toNat_natCast]
    refine ⟨by omega, y.id, y.dt, y.ar, y.gp, y.gs.length, y.gc, y.by_, y.ct, y.hp, y.hs.length, y.hc, y.wd, hat, fun n6 W6 hW6 => ?_⟩
    have k46 : K0 w4 W6 := hW6.kk rfl
    have kw6 : K0 w W6 := kw4.trans k46
    refine ⟨(edays_any L p c q d bs y W6 (hR.k0 kw6) (hP.k0 kw6) hb hL ((hX y hyl).gs.k0 kw6) oky.gl oky.gz).mono fun e w7 ⟨he, k67⟩ => ⟨_, _, he, .of_k0 k67, ?_⟩⟩
    have hdb := daysR_bd hrl y.gs
    refine ⟨fun vs w' => vs = [] ∧ ∃ (p' : Option Addr) (c' : Nat), PlR w w' n3 p' c' n2 (sumB (l.take i)) budget ((l.take (i + 1)).map (mkC L now)) ((l.take i).map fun x => idI x.id), fun W7 hW7 => ?_, ?_⟩
    · have k7 : K0 w7 W7 := hW7.kk rfl
      have k47 : K0 w4 W7 := (k46.trans k67).trans k7
      have kw7 : K0 w W7 := kw4.trans k47
      have hpl7 := hpl.k k47
      have hb3 := hpl7.blk
      rw [hlen] at hb3
      have ho7 := hpl7.own
      rw [hlen] at ho7
      have hbn1 := hW7.cells 0 rfl
      have hbn6 := hW7.cells 1 rfl
      have eat : ∀ {wx : World}, K0 W7 wx → AtL wx n6 0 (axC y) := fun hk => AtL_block (hk.blk hbn6 (fun h => h)) rfl
      obtain ⟨es, cl, hmb⟩ := hpl7.mapAt
      -- one candidate more
      have app : ∀ (v : List Value), v = cxC (mkC L now y) → ∀ (wx : World), K0 W7 wx → ∀ (n13 : Nat) (wn : World), NewB wx (.cells v.toArray 109) n13 wn → K0 W7 wn ∧
          ∃ (base : Nat) (xs news : List Value), wn.ownsRow base 109 42 (.slice p' i c') i xs ∧ news.length = 42 ∧ SrcP wn (some (Addr.mk n13 0 none)) news ∧ i + 1 ≤ 9223372036854775807 ∧ (i + 1) * 128 ≤ 140737488355328 ∧ base ≤ wn.heap.size ∧
            ∀ (p'' : Option Addr) (c'' : Nat) (w' : World), w'.ownsRow base 109 42 (.slice p'' (i + 1) c'') (i + 1) (xs ++ news) → wn.grownBy w' (Value.slice p' i c').ownBlock → (i + 1 ≤ c' → p'' = p' ∧ c'' = c') →
              ((∃ (u : Value), w'.cell? (Addr.mk n3 0 none) = some u) ∧ w'.frozen? (Addr.mk n3 0 none) = false) ∧ ∀ (wp : World), PutB w' n3 0 [Value.slice p'' (i + 1) c''] wp → KeptL [n1, n6] W7 wp ∧
                (([] : List Value) = [] ∧ ∃ (p' : Option Addr) (c' : Nat), PlR w wp n3 p' c' n2 (sumB (l.take i)) budget ((l.take (i + 1)).map (mkC L now)) ((l.take i).map fun x => idI x.id)) := by
        intro v hv wx kx n13 wn hn
        have kn : K0 W7 wn := kx.trans (hn.kp _)
        refine ⟨kn, ?_⟩
        have hox := owns_kp ho7 kx (fun _ _ h => h)
        refine app1 hox (Nat.le_trans kw7.size kx.size) hn (by rw [hv]; exact cxC_length _) (by rw [hv]; exact cxC_one _) (by omega) (by omega) (fun p'' c'' w' ho' hk' _ => ?_)
        have kk : Kp (fun k => (Value.slice p' i c').ownBlock = some k) W7 w' := Kp.trans (kx.mono (fun _ _ h => h.elim)) hk'
        have n3r : ¬ (Value.slice p' i c').ownBlock = some n3 := own_not ho7 hb3 rfl
        have hb3' := kk.blk hb3 n3r
        have kwp : K0 w w' := Kp.fresh kw7 kk (fun j hj e => by have := own_ge ho7 e; omega)
        refine ⟨cell_wr2 hb3' rfl, fun wp hp => ⟨?_, rfl, p'', c'', ?_⟩⟩
        · refine .of_kp (M := fun k => (Value.slice p' i c').ownBlock = some k ∨ k = n3) ((kk.mono fun _ _ h => .inl h).trans (hp.kp.mono fun _ _ h => .inr h)) (fun m hm => ?_)
          simp only [List.mem_cons, List.not_mem_nil, or_false] at hm
          rcases hm with rfl | rfl
          · rintro (h | h)
            · exact own_not ho7 hbn1 rfl h
            · exact blk_ne hbn1 hb3 rfl h
          · rintro (h | h)
            · exact own_not ho7 hbn6 rfl h
            · exact blk_ne hbn6 hb3 rfl h
        · have hcs : (l.take (i + 1)).map (mkC L now) = (l.take i).map (mkC L now) ++ [mkC L now y] := by rw [htk, List.map_append]; rfl
          have hl1 : ((l.take (i + 1)).map (mkC L now)).length = i + 1 := by rw [hcs, List.length_append, hlen]; rfl
          have n2r : ¬ (Value.slice p' i c').ownBlock = some n2 := own_notMap ho7 hmb
          have n23 : n3 ≠ n2 := blk_neMap hb3 hmb
          refine ⟨by rw [hp.block hb3', hl1]; rfl, ?_, ?_, ?_, put_k0 kwp hp g3, g3, g2⟩
          · rw [hl1, hcs, List.flatMap_append]
            have := owns_kp ho' hp.kp (fun k hk e => by
              subst e
              exact own_not ho' hb3' rfl hk)
            rw [hv] at this
            simpa using this
          · obtain ⟨ml, hm, hi'⟩ := hpl7.map
            exact ⟨ml, (hm.kp kk n2r).kp hp.kp (fun e => n23 e.symm), hi'⟩
          · intro z hz
            rw [hcs] at hz
            rcases List.mem_append.1 hz with h | h
            · exact hpl7.art z h
            · simp at h
              subst h
              exact hX y hyl
      have hS : ∀ {wx : World}, K0 W7 wx → wx.cell? ⟨n3, 0, none⟩ = some (.slice p' i c') := fun hk => cell_at (hk.blk hb3 (fun h => h)) rfl
      have ov : decide (now ≥ IntKind.i64.wrap (y.ar + IntKind.i64.wrap ((daysR L y.gs).2 * 1440))) = overB L now y.pl := by
        have h1 := oky.ar
        rw [wr64 (x := (daysR L y.gs).2 * 1440) (by omega) (by omega), wr64 (by omega) (by omega)]
        rfl
      have my : decide (now ≥ IntKind.i64.wrap (y.ar + IntKind.i64.wrap ((daysR L y.gs).1 * 1440))) = mayB L now y.pl := by
        have h1 := oky.ar
        rw [wr64 (x := (daysR L y.gs).1 * 1440) (by omega) (by omega), wr64 (by omega) (by omega)]
        rfl
      refine ⟨fun w' => K0 W7 w', .refl _ _, p', i, c', fun wx hk => hS hk, y.id, y.dt, y.ar, y.gp, y.gs.length, y.gc, y.by_, y.ct, y.hp, y.hs.length, y.hc, y.wd, fun wx hk => eat hk, y.ct, fun wx hk => cell_at (hk.blk hbn6 (fun h => h)) rfl, y.ar, fun wx hk => cell_at (hk.blk hbn6 (fun h => h)) rfl, y.ar, fun wx hk => cell_at (hk.blk hbn6 (fun h => h)) rfl, .refl _ _, y.id, y.dt, y.ar, y.gp, y.gs.length, y.gc, y.by_, y.ct, y.hp, y.hs.length, y.hc, y.wd, gimp_intro fun _ wx hk => eat hk, ?_⟩
      have fixE : fixB now y.pl = (permC y.ct || ((y.ct != 0 || decide ((y.hs.length : Int) > 0)) && decide (now ≤ y.dt + 20160))) := by
        unfold fixB
        have e : (!(y.pl.holds).isEmpty) = decide ((y.hs.length : Int) > 0) := by
          show (!((y.hs.map idI).isEmpty)) = _
          cases y.hs <;> simp
        rw [e]
        rfl
      refine bsp_intro (fun hperm => ?_) (fun hperm => ?_)
      · have hperm : permC y.ct = false := by simpa using hperm
        refine ⟨(aholds_any y W7).mono fun e w8 ⟨he, k8⟩ => ⟨_, he, k8, y.id, y.dt, y.ar, y.gp, y.gs.length, y.gc, y.by_, y.ct, y.hp, y.hs.length, y.hc, y.wd, gimp_intro fun _ wx hk => eat hk, ?_⟩⟩
        refine bsp_intro (fun hh => ?_) (fun hh => ?_)
        · refine ⟨(lastHeld_any y w8).mono fun e w9 ⟨he, k9⟩ => ⟨_, he, k8.trans k9, fun n13 wn hn => app _ ?_ w9 (k8.trans k9) n13 wn hn⟩⟩
          have h2 := oky.dt
          rw [ov, my, wr64 (x := y.dt + 20160) (by omega) (by omega)]
          unfold cxC mkC
          simp only [fixE, hperm, hh, Bool.false_or, Bool.true_and]
        · refine ⟨k8, fun n13 wn hn => app _ ?_ w8 k8 n13 wn hn⟩
          rw [ov, my]
          unfold cxC mkC
          simp only [fixE, hperm, hh, Bool.false_or, Bool.false_and]
      · have hperm : permC y.ct = true := by simpa using hperm
        refine ⟨.refl _ _, .refl _ _, fun n13 wn hn => app _ ?_ W7 (.refl _ _) n13 wn hn⟩
        rw [ov, my]
        unfold cxC mkC
        simp only [fixE, hperm, Bool.true_or]
    · -- the map and the bytes
      rintro w8 ⟨-, p8, c8, hpl8⟩ hL8
      have hb8 := hpl8.blk
      refine ⟨some n2, fun W9 hW9 => cell_at ((hW9.kk rfl).blk hb8 (fun h => h)) rfl, fun W9 hW9 => ?_⟩
      have k9 : K0 w8 W9 := hW9.kk rfl
      have hpl9 := hpl8.k k9
      obtain ⟨ml, hm9, hmi⟩ := hpl9.map
      obtain ⟨es, cl, hmb⟩ := hpl9.mapAt
      obtain ⟨w10, hu, hm10, k10⟩ := MapB.upd byA_inj hm9 idKeyed Try.underlying97 (idKey (idI_len y.id) (idI_bd oky.id)) (.bool true)
      have hbn1 := hW9.cells 0 rfl
      have hbn6 := hW9.cells 1 rfl
      have hb9 := hpl9.blk
      have hb10 := k10.blk hb9 (blk_neMap hb9 hmb)
      refine ⟨w10, hu, .of_kp k10 (fun m hmm => ?_), sumB (l.take i), fun W11 hW11 => cell_at ((hW11.kk rfl).blk hb10 (fun h => h)) rfl, fun W11 hW11 => ?_⟩
      · simp only [List.mem_cons, List.not_mem_nil, or_false] at hmm
        rcases hmm with rfl | rfl
        · exact blk_neMap hbn1 hmb
        · exact blk_neMap hbn6 hmb
      have k11 : K0 w10 W11 := hW11.kk rfl
      have hb11 := k11.blk hb10 (fun h => h)
      refine ⟨cell_wr2 hb11 rfl, fun w12 hp => ?_⟩
      have n23 : n3 ≠ n2 := blk_neMap hb9 hmb
      have kw10 : K0 w w10 := Kp.fresh hpl9.k0 k10 (fun j hj e => by omega)
      have kw11 : K0 w W11 := kw10.trans k11
      have hbd := sumB_bd (l.take i) (fun x hx => (hok x (List.mem_of_mem_take hx)).by_)
      have hli : (l.take i).length = i := by rw [List.length_take]; omega
      have hbyy := oky.by_
      have hn1' := hW11.cells 0 rfl
      have hn6' := hW11.cells 1 rfl
      refine ⟨put_kept hp (fun m hmm => ?_), ⟨i + 1, p8, c8, by rw [inc64 (by omega)], hlt, ?_⟩, by rw [inc64 (by omega)]; simp only [Int.toNat_natCast]; omega⟩
      · simp only [List.mem_cons, List.not_mem_nil, or_false] at hmm
        rcases hmm with rfl | rfl
        · exact blk_ne hn1' hb11 rfl
        · exact blk_ne hn6' hb11 rfl
      refine ⟨?_, ?_, ?_, hpl8.art, put_k0 kw11 hp g3, g3, g2⟩
      · rw [hp.block hb11, htk, sumB_snoc, wr64 (by rw [hli] at hbd; omega) (by rw [hli] at hbd; omega)]
        rfl
      · have h1 := owns_kp hpl9.own k10 (fun k hk e => by subst e; exact own_notMap hpl9.own hmb hk)
        have h2 := owns_kp h1 k11 (fun _ _ h => h)
        exact owns_kp h2 hp.kp (fun k hk e => by subst e; exact own_not h2 hb11 rfl hk)
      · refine ⟨_, (hm10.kp k11 (fun h => h)).kp hp.kp (fun e => n23 e.symm), fun j => ?_⟩
        rw [aget_aset, htk, List.map_append]
        obtain ⟨m1, m2⟩ := hmi j
        refine ⟨fun hj => ?_, fun hj => ?_⟩
        · by_cases e : idI y.id = j
          · rw [if_pos e]
          · rw [if_neg e]
            refine m1 ?_
            rcases List.mem_append.1 hj with h | h
            · exact h
            · simp at h; exact absurd h.symm e
        · have h1 : ¬ idI y.id = j := fun e => hj (List.mem_append_right _ (by simp [e]))
          rw [if_neg h1]
          exact m2 fun h => hj (List.mem_append_left _ h)
  · have hi : i = l.length := by simp at hge; omega
    subst hi
    rw [List.take_length] at hpl
    have ho := hpl.own
    refine ⟨p', _, c', cell_at hpl.blk rfl, ?_⟩
    refine ⟨(esort_any (l.map (mkC L now)) p' c' w4 ho (by rw [List.length_map]; omega)).mono fun e w5 ⟨he, cs', hperm, hsrt, ho5, k5⟩ => ⟨he, ?_, n3, p', c', n2, cs', rfl, ?_, hperm, hsrt⟩⟩
    · exact .of_kp k5 (fun m hm => by
        simp at hm
        subst hm
        exact own_not ho (hL4.cells 0 rfl) rfl)
    · obtain ⟨ml, hm, hmi⟩ := hpl.map
      obtain ⟨es, cl, hmb⟩ := hpl.mapAt
      have hbl := k5.blk hpl.blk (own_not ho hpl.blk rfl)
      rw [← hperm.length_eq] at hbl
      exact ⟨hbl, ho5, ⟨ml, hm.kp k5 (own_notMap ho hmb), hmi⟩, fun z hz => hpl.art z (hperm.mem_iff.1 hz), Kp.fresh kw4 k5 (fun j hj e => by have := own_ge ho e; omega), g3, g2⟩

end Go.Proofs.Ytmjanmffnblcoaa
