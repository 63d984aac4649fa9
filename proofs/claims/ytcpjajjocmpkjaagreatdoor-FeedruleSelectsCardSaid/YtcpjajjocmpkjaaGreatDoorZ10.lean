/- The formulas of functions by the symbolic evaluator, and that each gives the call's contract. Written by a program (gen.py). No condition. -/
import Derived.Test.YtcpjajjocmpkjaaGreatDoorProg
import Derived.Test.YtcpjajjocmpkjaaGreatDoorZ02
import Derived.Test.YtcpjajjocmpkjaaGreatDoorZ03
import Derived.KernelRfl
import Derived.Test.YtcpjajjocmpkjaaGreatDoorZ04
import Derived.Test.YtcpjajjocmpkjaaGreatDoorZ09
import Derived.Test.YtcpjajjocmpkjaaGreatDoorZ06
namespace Go.Proofs.YtcpjajjocmpkjaaGreatDoor
set_option maxRecDepth 100000
set_option linter.unusedVariables false

def VC_newQuota (n : Int) (w : World) (R : Ending → World → Prop) : Prop :=
 bsp (decide (n < 0) || decide (n > 1099511627776))
 (R (Ending.returned (Value.tuple #[Value.pointer none, Value.int IntKind.i64 2])) w)
 (∀ (n_1 : Nat) (w1 : World),
 NewB w (Obj.cells #[Value.int IntKind.i64 n, Value.bool false, Value.int IntKind.i64 0, Value.int IntKind.i64 0] 97)
 n_1 w1 →
 R (Ending.returned (Value.tuple #[Value.pointer (some (Addr.mk n_1 0 none)), Value.int IntKind.i64 0])) w1)
theorem vc_newQuota (n : Int) (w : World) (R : Ending → World → Prop) (h : VC_newQuota n w R) : Calls Tryz.prog 15 ([Value.int
    IntKind.i64 n] : List Value).toArray w R := by
  have e : execR { P := Tryz.prog, loops := [], pur := pur0, tails := [], joins := [], boxes := [] } Tryz.f15.results.toList R (Tryz.f15.body.getD .skip) (initF [Value.int
    IntKind.i64
    n] (Tryz.f15.ntmps - ([Value.int IntKind.i64 n] : List Value).length)) w = VC_newQuota n w R := by kernel_rfl
  have hb : Tryz.f15.body = some (Tryz.f15.body.getD .skip) := by kernel_rfl
  exact calls_of_exec' (P := Tryz.prog) (fn := Tryz.f15) (c := Tryz.f15.body.getD .skip) (args := [Value.int IntKind.i64
    n]) (w := w) (R := R) pur0_ok Tryz.func15 hb e h

def VC_on (b : Nat) (o : Nat) (now : Int) (w : World) (R : Ending → World → Prop) : Prop :=
 bsp (decide (now < 0) || decide (now > 105190559))
 (R (Ending.returned (Value.tuple #[Value.int IntKind.i64 0, Value.int IntKind.i64 0, Value.int IntKind.i64 13])) w)
 (∃ (x : Bool),
 w.cell? (Addr.mk b (o + 1) none) = some (Value.bool x) ∧
 ∃ (x_1 : Int),
 gimp (!!x) (w.cell? (Addr.mk b (o + 2) none) = some (Value.int IntKind.i64 x_1)) ∧
 bsp (!x || decide (IntKind.i64.wrap (now.tdiv 1440) > x_1))
 (R
 (Ending.returned
 (Value.tuple
 #[Value.int IntKind.i64 (IntKind.i64.wrap (now.tdiv 1440)), Value.int IntKind.i64 0, Value.int IntKind.i64 0]))
 w)
 (∃ (x : Int),
 w.cell? (Addr.mk b (o + 2) none) = some (Value.int IntKind.i64 x) ∧
 bsp (decide (IntKind.i64.wrap (now.tdiv 1440) < x))
 (R
 (Ending.returned (Value.tuple #[Value.int IntKind.i64 0, Value.int IntKind.i64 0, Value.int IntKind.i64 13]))
 w)
 (∃ (x : Int),
 w.drew.cell? (Addr.mk b (o + 3) none) = some (Value.int IntKind.i64 x) ∧
 R
 (Ending.returned
 (Value.tuple
 #[Value.int IntKind.i64 (IntKind.i64.wrap (now.tdiv 1440)), Value.int IntKind.i64 x,
 Value.int IntKind.i64 0]))
 w.drew)))
theorem vc_on (b : Nat) (o : Nat) (now : Int) (w : World) (R : Ending → World → Prop) (h : VC_on b o now w R) : Calls Tryz.prog 38 ([Value.pointer
    (some { block := b, off := o }),
  Value.int IntKind.i64 now] : List Value).toArray w R := by
  have e : execR { P := Tryz.prog, loops := [], pur := pur0, tails := [], joins := [], boxes := [] } Tryz.f38.results.toList R (Tryz.f38.body.getD .skip) (initF [Value.pointer
    (some { block := b, off := o }),
  Value.int IntKind.i64
    now] (Tryz.f38.ntmps - ([Value.pointer (some { block := b, off := o }),
  Value.int IntKind.i64 now] : List Value).length)) w = VC_on b o now w R := by kernel_rfl
  have hb : Tryz.f38.body = some (Tryz.f38.body.getD .skip) := by kernel_rfl
  exact calls_of_exec' (P := Tryz.prog) (fn := Tryz.f38) (c := Tryz.f38.body.getD .skip) (args := [Value.pointer
    (some { block := b, off := o }),
  Value.int IntKind.i64 now]) (w := w) (R := R) pur0_ok Tryz.func38 hb e h

def VC_take (b : Nat) (o : Nat) (n : Int) (now : Int) (w : World) (R : Ending → World → Prop) : Prop :=
 bsp (decide (n < 0) || decide (n > 1099511627776)) (R (Ending.returned (Value.int IntKind.i64 2)) w)
 (CallsS Tryz.prog 38 #[Value.pointer (some (Addr.mk b o none)), Value.int IntKind.i64 now] w
 fun (e : Ending) (w' : World) =>
 ∃ (x : Int),
 ∃ (x_1 : Int),
 ∃ (x_2 : Int),
 e =
 Ending.returned (Value.tuple #[Value.int IntKind.i64 x, Value.int IntKind.i64 x_1, Value.int IntKind.i64 x_2]) ∧
 bsp (x_2 != 0) (R (Ending.returned (Value.int IntKind.i64 x_2)) w')
 (∃ (x_3 : Int),
 w'.cell? (Addr.mk b o none) = some (Value.int IntKind.i64 x_3) ∧
 bsp (x_3 == 0)
 (((∃ (u : Value), w'.cell? (Addr.mk b (o + 1) none) = some u) ∧ w'.frozen? (Addr.mk b (o + 1) none) = false) ∧
 ∀ (w1 : World),
 PutB w' b (o + 1) [Value.bool true] w1 →
 ((∃ (u : Value), w1.cell? (Addr.mk b (o + 2) none) = some u) ∧
 w1.frozen? (Addr.mk b (o + 2) none) = false) ∧
 ∀ (w1_1 : World),
 PutB w1 b (o + 2) [Value.int IntKind.i64 x] w1_1 →
 ((∃ (u : Value), w1_1.cell? (Addr.mk b (o + 3) none) = some u) ∧
 w1_1.frozen? (Addr.mk b (o + 3) none) = false) ∧
 ∀ (w1 : World),
 PutB w1_1 b (o + 3) [Value.int IntKind.i64 (IntKind.i64.wrap (x_1 + 0))] w1 →
 R (Ending.returned (Value.int IntKind.i64 0)) w1)
 (∃ (x_4 : Int),
 w'.cell? (Addr.mk b o none) = some (Value.int IntKind.i64 x_4) ∧
 bsp (decide (IntKind.i64.wrap (x_1 + n) > x_4)) (R (Ending.returned (Value.int IntKind.i64 9)) w')
 (((∃ (u : Value), w'.cell? (Addr.mk b (o + 1) none) = some u) ∧
 w'.frozen? (Addr.mk b (o + 1) none) = false) ∧
 ∀ (w1 : World),
 PutB w' b (o + 1) [Value.bool true] w1 →
 ((∃ (u : Value), w1.cell? (Addr.mk b (o + 2) none) = some u) ∧
 w1.frozen? (Addr.mk b (o + 2) none) = false) ∧
 ∀ (w1_1 : World),
 PutB w1 b (o + 2) [Value.int IntKind.i64 x] w1_1 →
 ((∃ (u : Value), w1_1.cell? (Addr.mk b (o + 3) none) = some u) ∧
 w1_1.frozen? (Addr.mk b (o + 3) none) = false) ∧
 ∀ (w1 : World),
 PutB w1_1 b (o + 3) [Value.int IntKind.i64 (IntKind.i64.wrap (x_1 + n))] w1 →
 R (Ending.returned (Value.int IntKind.i64 0)) w1))))
theorem vc_take (b : Nat) (o : Nat) (n : Int) (now : Int) (w : World) (R : Ending → World → Prop) (h : VC_take b o n now w R) : Calls Tryz.prog 16 ([Value.pointer
    (some { block := b, off := o }),
  Value.int IntKind.i64 n, Value.int IntKind.i64 now] : List Value).toArray w R := by
  have e : execR { P := Tryz.prog, loops := [], pur := pur0, tails := [], joins := [], boxes := [] } Tryz.f16.results.toList R (Tryz.f16.body.getD .skip) (initF [Value.pointer
    (some { block := b, off := o }),
  Value.int IntKind.i64 n,
  Value.int IntKind.i64
    now] (Tryz.f16.ntmps - ([Value.pointer (some { block := b, off := o }), Value.int IntKind.i64 n,
  Value.int IntKind.i64 now] : List Value).length)) w = VC_take b o n now w R := by kernel_rfl
  have hb : Tryz.f16.body = some (Tryz.f16.body.getD .skip) := by kernel_rfl
  exact calls_of_exec' (P := Tryz.prog) (fn := Tryz.f16) (c := Tryz.f16.body.getD .skip) (args := [Value.pointer
    (some { block := b, off := o }),
  Value.int IntKind.i64 n, Value.int IntKind.i64 now]) (w := w) (R := R) pur0_ok Tryz.func16 hb e h

def VC_left (b : Nat) (o : Nat) (now : Int) (w : World) (R : Ending → World → Prop) : Prop :=
 ∃ (x : Int),
 w.cell? (Addr.mk b o none) = some (Value.int IntKind.i64 x) ∧
 bsp (x == 0) (R (Ending.returned (Value.int IntKind.i64 (-1))) w)
 (CallsS Tryz.prog 38 #[Value.pointer (some (Addr.mk b o none)), Value.int IntKind.i64 now] w
 fun (e : Ending) (w' : World) =>
 ∃ (x : Int),
 ∃ (x_1 : Int),
 ∃ (x_2 : Int),
 e =
 Ending.returned
 (Value.tuple #[Value.int IntKind.i64 x, Value.int IntKind.i64 x_1, Value.int IntKind.i64 x_2]) ∧
 bsp (x_2 != 0) (R (Ending.returned (Value.int IntKind.i64 0)) w')
 (∃ (x : Int),
 w'.cell? (Addr.mk b o none) = some (Value.int IntKind.i64 x) ∧
 R (Ending.returned (Value.int IntKind.i64 (IntKind.i64.wrap (x - x_1)))) w'))
theorem vc_left (b : Nat) (o : Nat) (now : Int) (w : World) (R : Ending → World → Prop) (h : VC_left b o now w R) : Calls Tryz.prog 18 ([Value.pointer
    (some { block := b, off := o }),
  Value.int IntKind.i64 now] : List Value).toArray w R := by
  have e : execR { P := Tryz.prog, loops := [], pur := pur0, tails := [], joins := [], boxes := [] } Tryz.f18.results.toList R (Tryz.f18.body.getD .skip) (initF [Value.pointer
    (some { block := b, off := o }),
  Value.int IntKind.i64
    now] (Tryz.f18.ntmps - ([Value.pointer (some { block := b, off := o }),
  Value.int IntKind.i64 now] : List Value).length)) w = VC_left b o now w R := by kernel_rfl
  have hb : Tryz.f18.body = some (Tryz.f18.body.getD .skip) := by kernel_rfl
  exact calls_of_exec' (P := Tryz.prog) (fn := Tryz.f18) (c := Tryz.f18.body.getD .skip) (args := [Value.pointer
    (some { block := b, off := o }),
  Value.int IntKind.i64 now]) (w := w) (R := R) pur0_ok Tryz.func18 hb e h

end Go.Proofs.YtcpjajjocmpkjaaGreatDoor

/- The contracts of the quota's functions (NewQuota, on, Take, Left) and of the reference's (date, used, Take, Left), by plain functions. Where sums are made the numbers are at most 2^40 or in the range of int. -/
namespace Go.Proofs.YtcpjajjocmpkjaaGreatDoor
open Go.RowKit

/-- A quota. -/
structure Qt where
  lim : Int
  ch : Bool
  day : Int
  used : Int
/-- A quota in a block of its own. -/
def QAt (w : World) (b : Nat) (q : Qt) : Prop := w.heap[b]? = some (.cells #[.int .i64 q.lim, .bool q.ch, .int .i64 q.day, .int .i64 q.used] 97)
/-- The day of a minute, what was charged on it, the error. -/
def onS (q : Qt) (now : Int) : Int × Int × Int :=
  if now < 0 ∨ 105190559 < now then (0, 0, 13) else
  if q.ch = false ∨ q.day < now / 1440 then (now / 1440, 0, 0) else
  if now / 1440 < q.day then (0, 0, 13) else (now / 1440, q.used, 0)

theorem newQuota_any (n : Int) (w : World) : Calls Tryz.prog 15 #[.int .i64 n] w fun e w' =>
    (n < 0 ∨ 1099511627776 < n) ∧ e = .returned (.tuple #[.pointer none, .int .i64 2]) ∧ w' = w ∨
    ¬ (n < 0 ∨ 1099511627776 < n) ∧ ∃ b, e = .returned (.tuple #[.pointer (some ⟨b, 0, none⟩), .int .i64 0]) ∧ QAt w' b ⟨n, false, 0, 0⟩ ∧ K0 w w' ∧ w.heap.size ≤ b := by
  refine vc_newQuota n w _ ?_
  unfold VC_newQuota
  refine bsp_intro (fun h => ?_) (fun h => ?_)
  · exact .inl ⟨by simpa using h, rfl, rfl⟩
  · intro b w1 hn
    exact .inr ⟨by simpa using h, b, rfl, hn.block, hn.kp _, hn.ge⟩

theorem tdiv_day {now : Int} (h0 : 0 ≤ now) (h1 : now ≤ 105190559) : IntKind.i64.wrap (now.tdiv 1440) = now / 1440 := by
  rw [Int.tdiv_eq_ediv_of_nonneg h0]
  exact wr64 (by omega) (by omega)

theorem on_any (b : Nat) (now : Int) (q : Qt) (w : World) (hq : QAt w b q) : Calls Tryz.prog 38 #[.pointer (some ⟨b, 0, none⟩), .int .i64 now] w fun e w' =>
    e = .returned (.tuple #[.int .i64 (onS q now).1, .int .i64 (onS q now).2.1, .int .i64 (onS q now).2.2]) ∧ (w' = w ∨ w' = w.drew) := by
  refine vc_on b 0 now w _ ?_
  have hc := cell_block hq
  unfold VC_on
  refine bsp_intro (fun h => ?_) (fun h => ?_)
  · have h : now < 0 ∨ 105190559 < now := by simpa using h
    exact ⟨by simp [onS, h], .inl rfl⟩
  · have h : ¬ (now < 0 ∨ 105190559 < now) := by simpa using h
    rw [tdiv_day (by omega) (by omega)]
    refine ⟨q.ch, hc 1, q.day, gimp_intro fun _ => hc 2, bsp_intro (fun h1 => ?_) (fun h1 => ?_)⟩
    · have h1 : q.ch = false ∨ q.day < now / 1440 := by simpa using h1
      exact ⟨by simp [onS, h, h1], .inl rfl⟩
    · have h1 : ¬ (q.ch = false ∨ q.day < now / 1440) := by simpa using h1
      refine ⟨q.day, hc 2, bsp_intro (fun h2 => ?_) (fun h2 => ?_)⟩
      · have h2 : now / 1440 < q.day := by simpa using h2
        exact ⟨by simp [onS, h, h1, h2], .inl rfl⟩
      · have h2 : ¬ now / 1440 < q.day := by simpa using h2
        exact ⟨q.used, hc 3, by simp [onS, h, h1, h2], .inr rfl⟩

/-- The error of a charge, and the quota behind it. -/
def takeS (q : Qt) (n now : Int) : Int × Qt :=
  if n < 0 ∨ 1099511627776 < n then (2, q) else
  if (onS q now).2.2 ≠ 0 then ((onS q now).2.2, q) else
  if q.lim = 0 then (0, ⟨q.lim, true, (onS q now).1, (onS q now).2.1⟩) else
  if q.lim < (onS q now).2.1 + n then (9, q) else (0, ⟨q.lim, true, (onS q now).1, (onS q now).2.1 + n⟩)
theorem onS_used {q : Qt} {now : Int} {B : Int} (hB : 0 ≤ B) (h : 0 ≤ q.used ∧ q.used ≤ B) : 0 ≤ (onS q now).2.1 ∧ (onS q now).2.1 ≤ B := by
  unfold onS
  repeat' split
  all_goals simp
  all_goals omega

/-- Three cells of a quota are written. -/
theorem qput {w w1 w2 w3 : World} {b : Nat} {q : Qt} {d u : Int} (hq : QAt w b q) (h1 : PutB w b 1 [.bool true] w1) (h2 : PutB w1 b 2 [.int .i64 d] w2) (h3 : PutB w2 b 3 [.int .i64 u] w3) :
    QAt w3 b ⟨q.lim, true, d, u⟩ ∧ Kp (· = b) w w3 := by
  refine ⟨?_, (h1.kp.trans h2.kp).trans h3.kp⟩
  have a1 := h1.block hq
  have a2 := h2.block a1
  have a3 := h3.block a2
  simpa [QAt, putL] using a3
theorem take_any (b : Nat) (n now : Int) (q : Qt) (w : World) (hq : QAt w b q) (hu : 0 ≤ q.used ∧ q.used ≤ 1099511627776) : Calls Tryz.prog 16 #[.pointer (some ⟨b, 0, none⟩), .int .i64 n, .int .i64 now] w fun e w' =>
    e = .returned (.int .i64 (takeS q n now).1) ∧ QAt w' b (takeS q n now).2 ∧ Kp (· = b) w w' := by
  refine vc_take b 0 n now w _ ?_
  unfold VC_take
  refine bsp_intro (fun h => ?_) (fun h => ⟨(on_any b now q w hq).mono fun e w' ⟨he, hw'⟩ => ⟨_, _, _, he, ?_⟩⟩)
  · have h : n < 0 ∨ 1099511627776 < n := by simpa using h
    exact ⟨by simp [takeS, h], by simpa [takeS, h] using hq, .refl _ _⟩
  have h : ¬ (n < 0 ∨ 1099511627776 < n) := by simpa using h
  have hq' : QAt w' b q := by rcases hw' with rfl | rfl <;> exact hq
  have hk : Kp (· = b) w w' := by rcases hw' with rfl | rfl; exact .refl _ _; exact (Kp.refl _ _).drew
  have hou := onS_used (now := now) (by omega) hu
  have hc := cell_block hq'
  have wr : ∀ {w : World} {q : Qt} (_ : QAt w b q) (i : Nat), i < 4 → (∃ u, w.cell? ⟨b, i, none⟩ = some u) ∧ w.frozen? ⟨b, i, none⟩ = false := fun hq i hi => by
    refine ⟨?_, frozen_block hq i⟩
    rw [cell_block hq]
    exact ⟨_, Array.getElem?_eq_getElem (by simpa using hi)⟩
  refine bsp_intro (fun h1 => ?_) (fun h1 => ?_)
  · have h1 : (onS q now).2.2 ≠ 0 := by simpa using h1
    exact ⟨by simp [takeS, h, h1], by simpa [takeS, h, h1] using hq', hk⟩
  · have h1 : (onS q now).2.2 = 0 := by simpa using h1
    refine ⟨q.lim, hc 0, bsp_intro (fun h2 => ?_) (fun h2 => ⟨q.lim, hc 0, ?_⟩)⟩
    · have h2 : q.lim = 0 := by simpa using h2
      refine ⟨wr hq' 1 (by omega), fun w1 p1 => ⟨?_, fun w2 p2 => ⟨?_, fun w3 p3 => ?_⟩⟩⟩
      · exact wr (q := ⟨q.lim, true, q.day, q.used⟩) (by simpa [QAt, putL] using p1.block hq') 2 (by omega)
      · exact wr (q := ⟨q.lim, true, _, q.used⟩) (by simpa [QAt, putL] using p2.block (p1.block hq')) 3 (by omega)
      · obtain ⟨r1, r2⟩ := qput hq' p1 p2 p3
        rw [wr64 (by omega) (by omega)] at r1
        exact ⟨by simp [takeS, h, h1, h2], by simpa [takeS, h, h1, h2] using r1, hk.trans r2⟩
    · have h2 : ¬ q.lim = 0 := by simpa using h2
      rw [wr64 (by omega) (by omega)]
      refine bsp_intro (fun h3 => ?_) (fun h3 => ?_)
      · have h3 : q.lim < (onS q now).2.1 + n := by simpa using h3
        exact ⟨by simp [takeS, h, h1, h2, h3], by simpa [takeS, h, h1, h2, h3] using hq', hk⟩
      · have h3 : ¬ q.lim < (onS q now).2.1 + n := by simpa using h3
        refine ⟨wr hq' 1 (by omega), fun w1 p1 => ⟨?_, fun w2 p2 => ⟨?_, fun w3 p3 => ?_⟩⟩⟩
        · exact wr (q := ⟨q.lim, true, q.day, q.used⟩) (by simpa [QAt, putL] using p1.block hq') 2 (by omega)
        · exact wr (q := ⟨q.lim, true, _, q.used⟩) (by simpa [QAt, putL] using p2.block (p1.block hq')) 3 (by omega)
        · obtain ⟨r1, r2⟩ := qput hq' p1 p2 p3
          exact ⟨by simp [takeS, h, h1, h2, h3], by simpa [takeS, h, h1, h2, h3] using r1, hk.trans r2⟩

def leftS (q : Qt) (now : Int) : Int := if q.lim = 0 then -1 else if (onS q now).2.2 ≠ 0 then 0 else q.lim - (onS q now).2.1
theorem left_any (b : Nat) (now : Int) (q : Qt) (w : World) (hq : QAt w b q) (hu : 0 ≤ q.used ∧ q.used ≤ 1099511627776) (hl : 0 ≤ q.lim ∧ q.lim ≤ 1099511627776) : Calls Tryz.prog 18 #[.pointer (some ⟨b, 0, none⟩), .int .i64 now] w fun e w' =>
    e = .returned (.int .i64 (leftS q now)) ∧ (w' = w ∨ w' = w.drew) := by
  refine vc_left b 0 now w _ ?_
  unfold VC_left
  refine ⟨q.lim, cell_block hq 0, bsp_intro (fun h => ?_) (fun h => ⟨(on_any b now q w hq).mono fun e w' ⟨he, hw'⟩ => ⟨_, _, _, he, ?_⟩⟩)⟩
  · have h : q.lim = 0 := by simpa using h
    exact ⟨by simp [leftS, h], .inl rfl⟩
  have h : ¬ q.lim = 0 := by simpa using h
  have hq' : QAt w' b q := by rcases hw' with rfl | rfl <;> exact hq
  have hou := onS_used (now := now) (by omega) hu
  refine bsp_intro (fun h1 => ?_) (fun h1 => ⟨q.lim, cell_block hq' 0, ?_⟩)
  · have h1 : (onS q now).2.2 ≠ 0 := by simpa using h1
    exact ⟨by simp [leftS, h, h1], hw'⟩
  · have h1 : (onS q now).2.2 = 0 := by simpa using h1
    rw [wr64 (by omega) (by omega)]
    exact ⟨by simp [leftS, h, h1], hw'⟩

end Go.Proofs.YtcpjajjocmpkjaaGreatDoor

/- The formulas of functions by the symbolic evaluator, and that each gives the call's contract. Written by a program (gen.py). No condition. -/
namespace Go.Proofs.YtcpjajjocmpkjaaGreatDoor
set_option maxRecDepth 100000
set_option linter.unusedVariables false

def VC_known (w : World) (R : Ending → World → Prop) : Prop :=
 ∀ (n : Nat) (w1 : World),
 NewB w (Obj.cells #[Value.string (ByteArray.mk #[119, 111, 114, 108, 100])] 9) n w1 →
 CallsS Tryz.prog 5
 #[Value.agg
 #[Value.string (ByteArray.mk #[98]),
 Value.string (ByteArray.mk #[99, 111, 109, 112, 46, 42, 44, 64, 42, 46, 98, 105, 110]),
 Value.int IntKind.i64 1000, Value.int IntKind.i64 10, Value.slice (some (Addr.mk n 0 none)) 1 1]]
 w1 fun (e : Ending) (w' : World) =>
 ∃ (x : Option Addr),
 ∃ (x_1 : Int),
 e = Ending.returned (Value.tuple #[Value.pointer x, Value.int IntKind.i64 x_1]) ∧
 ∀ (n : Nat) (w1 : World),
 NewB w' (Obj.cells #[Value.string (ByteArray.mk #[99, 111, 109, 112, 46, 111, 115])] 9) n w1 →
 ∀ (n_1 : Nat) (w1_1 : World),
 NewB w1
 (Obj.cells
 #[Value.int IntKind.u8 0, Value.int IntKind.u8 0, Value.int IntKind.u8 0, Value.int IntKind.u8 0,
 Value.int IntKind.u8 0, Value.int IntKind.u8 0, Value.int IntKind.u8 0, Value.int IntKind.u8 0,
 Value.int IntKind.u8 0, Value.int IntKind.u8 0, Value.int IntKind.u8 0, Value.int IntKind.u8 0,
 Value.int IntKind.u8 0, Value.int IntKind.u8 0, Value.int IntKind.u8 0, Value.int IntKind.u8 0,
 Value.int IntKind.u8 0, Value.int IntKind.u8 0, Value.int IntKind.u8 0, Value.int IntKind.u8 0,
 Value.int IntKind.u8 0, Value.int IntKind.u8 0, Value.int IntKind.u8 0, Value.int IntKind.u8 0,
 Value.int IntKind.u8 0, Value.int IntKind.u8 0, Value.int IntKind.u8 0, Value.int IntKind.u8 0,
 Value.int IntKind.u8 0, Value.int IntKind.u8 0, Value.int IntKind.u8 0, Value.int IntKind.u8 0,
 Value.slice none 0 0, Value.string (ByteArray.mk #[]), Value.int IntKind.i64 0, Value.bool false,
 Value.string (ByteArray.mk #[]), Value.int IntKind.i64 0]
 53)
 n_1 w1_1 →
 WrL w1_1 n_1 0 38 ∧
 ∀ (w1 : World),
 PutB w1_1 n_1 0
 [Value.int IntKind.u8 0, Value.int IntKind.u8 0, Value.int IntKind.u8 0, Value.int IntKind.u8 0,
 Value.int IntKind.u8 0, Value.int IntKind.u8 0, Value.int IntKind.u8 0, Value.int IntKind.u8 0,
 Value.int IntKind.u8 0, Value.int IntKind.u8 0, Value.int IntKind.u8 0, Value.int IntKind.u8 0,
 Value.int IntKind.u8 0, Value.int IntKind.u8 0, Value.int IntKind.u8 0, Value.int IntKind.u8 0,
 Value.int IntKind.u8 0, Value.int IntKind.u8 0, Value.int IntKind.u8 0, Value.int IntKind.u8 0,
 Value.int IntKind.u8 0, Value.int IntKind.u8 0, Value.int IntKind.u8 0, Value.int IntKind.u8 0,
 Value.int IntKind.u8 0, Value.int IntKind.u8 0, Value.int IntKind.u8 0, Value.int IntKind.u8 0,
 Value.int IntKind.u8 0, Value.int IntKind.u8 0, Value.int IntKind.u8 0, Value.int IntKind.u8 0,
 Value.slice (some (Addr.mk n 0 none)) 1 1, Value.string (ByteArray.mk #[]), Value.int IntKind.i64 1000,
 Value.bool false, Value.string (ByteArray.mk #[99]), Value.int IntKind.i64 5]
 w1 →
 ∃ (f : Nat → Int),
 ∃ (p : Option Addr),
 ∃ (n : Nat),
 ∃ (c : Nat),
 ∃ (x_2 : ByteArray),
 ∃ (x_3 : Int),
 ∃ (x_4 : Bool),
 ∃ (x_5 : ByteArray),
 ∃ (x_6 : Int),
 AtL w1 n_1 0
 (arrI IntKind.u8 f 32 0 ++ [Value.slice p n c, Value.string x_2,
 Value.int IntKind.i64 x_3, Value.bool x_4, Value.string x_5, Value.int IntKind.i64 x_6]) ∧
 CallsS Tryz.prog 14
 #[Value.pointer x,
 Value.agg
 (arrI IntKind.u8 f 32 0 ++ [Value.slice p n c,
 Value.string x_2, Value.int IntKind.i64 x_3, Value.bool x_4, Value.string x_5,
 Value.int IntKind.i64 x_6]).toArray]
 w1 fun (e : Ending) (w' : World) =>
 ∃ (x_7 : Int),
 ∃ (x_8 : Bool),
 e = Ending.returned (Value.tuple #[Value.int IntKind.i64 x_7, Value.bool x_8]) ∧
 ∃ (f : Nat → Int),
 ∃ (p : Option Addr),
 ∃ (n : Nat),
 ∃ (c : Nat),
 ∃ (x_9 : ByteArray),
 ∃ (x_10 : Int),
 ∃ (x_11 : Bool),
 ∃ (x_12 : ByteArray),
 ∃ (x_13 : Int),
 (∀ (w'_1 : World),
 K0 w'.drew w'_1 →
 AtL w'_1 n_1 0
 (arrI IntKind.u8 f 32 0 ++ [Value.slice p n c,
 Value.string x_9, Value.int IntKind.i64 x_10, Value.bool x_11,
 Value.string x_12, Value.int IntKind.i64 x_13])) ∧
 ∃ (f_1 : Nat → Int),
 ∃ (p_1 : Option Addr),
 ∃ (n_2 : Nat),
 ∃ (c_1 : Nat),
 ∃ (x_14 : ByteArray),
 ∃ (x_15 : Int),
 ∃ (x_16 : Bool),
 ∃ (x_17 : ByteArray),
 ∃ (x_18 : Int),
 (∀ (w'_1 : World),
 K0 w'.drew w'_1 →
 AtL w'_1 n_1 0
 (arrI IntKind.u8 f_1 32 0 ++ [Value.slice p_1 n_2 c_1, Value.string x_14,
 Value.int IntKind.i64 x_15, Value.bool x_16, Value.string x_17,
 Value.int IntKind.i64 x_18])) ∧
 ∃ (f_2 : Nat → Int),
 ∃ (p_2 : Option Addr),
 ∃ (n_3 : Nat),
 ∃ (c_2 : Nat),
 ∃ (x_19 : ByteArray),
 ∃ (x_20 : Int),
 ∃ (x_21 : Bool),
 ∃ (x_22 : ByteArray),
 ∃ (x_23 : Int),
 (∀ (w'_1 : World),
 K0 w'.drew w'_1 →
 AtL w'_1 n_1 0
 (arrI IntKind.u8 f_2 32 0 ++ [Value.slice p_2 n_3 c_2,
 Value.string x_19, Value.int IntKind.i64 x_20,
 Value.bool x_21, Value.string x_22,
 Value.int IntKind.i64 x_23])) ∧
 ∃ (f_3 : Nat → Int),
 ∃ (p_3 : Option Addr),
 ∃ (n_4 : Nat),
 ∃ (c_3 : Nat),
 ∃ (x_24 : ByteArray),
 ∃ (x_25 : Int),
 ∃ (x_26 : Bool),
 ∃ (x_27 : ByteArray),
 ∃ (x_28 : Int),
 (∀ (w'_1 : World),
 K0 w'.drew w'_1 →
 AtL w'_1 n_1 0
 (arrI IntKind.u8 f_3 32 0 ++ [Value.slice p_3 n_4 c_3, Value.string x_24,
 Value.int IntKind.i64 x_25, Value.bool x_26,
 Value.string x_27, Value.int IntKind.i64 x_28])) ∧
 ∃ (f_4 : Nat → Int),
 ∃ (p_4 : Option Addr),
 ∃ (n_5 : Nat),
 ∃ (c_4 : Nat),
 ∃ (x_29 : ByteArray),
 ∃ (x_30 : Int),
 ∃ (x_31 : Bool),
 ∃ (x_32 : ByteArray),
 ∃ (x_33 : Int),
 (∀ (w'_1 : World),
 K0 w'.drew w'_1 →
 AtL w'_1 n_1 0
 (arrI IntKind.u8 f_4 32 0 ++ [Value.slice p_4 n_5 c_4,
 Value.string x_29,
 Value.int IntKind.i64 x_30,
 Value.bool x_31, Value.string x_32,
 Value.int IntKind.i64 x_33])) ∧
 (∀ (n : Nat),
 some
 (Next.value
 (Value.pointer
 (some (Addr.mk n 0 none)))) =
 some
 (Next.value
 (Value.pointer
 (some (Addr.mk n 0 none))))) ∧
 (∀ (n : Nat),
 Value.pointer
 (some (Addr.mk n 0 none)) =
 Value.pointer
 (some (Addr.mk n 0 none))) ∧
 (∀ (n : Nat),
 some
 (Next.value
 (Value.pointer
 (some (Addr.mk n 0 none)))) =
 some
 (Next.value
 (Value.pointer
 (some (Addr.mk n 0 none))))) ∧
 (∀ (n : Nat),
 Value.pointer
 (some (Addr.mk n 0 none)) =
 Value.pointer
 (some (Addr.mk n 0 none))) ∧
 (∀ (n : Nat),
 some
 (Next.value
 (Value.pointer
 (some (Addr.mk n 0 none)))) =
 some
 (Next.value
 (Value.pointer
 (some (Addr.mk n 0 none))))) ∧
 (∀ (n : Nat),
 Value.pointer
 (some (Addr.mk n 0 none)) =
 Value.pointer
 (some (Addr.mk n 0 none))) ∧
 (∀ (n : Nat),
 some
 (Next.value
 (Value.pointer
 (some (Addr.mk n 0 none)))) =
 some
 (Next.value
 (Value.pointer
 (some (Addr.mk n 0 none))))) ∧
 (∀ (n : Nat),
 Value.pointer
 (some (Addr.mk n 0 none)) =
 Value.pointer
 (some (Addr.mk n 0 none))) ∧
 (∀ (n : Nat),
 some
 (Next.value
 (Value.pointer
 (some (Addr.mk n 0 none)))) =
 some
 (Next.value
 (Value.pointer
 (some
 (Addr.mk n 0 none))))) ∧
 (∀ (n : Nat),
 Value.pointer
 (some (Addr.mk n 0 none)) =
 Value.pointer
 (some (Addr.mk n 0 none))) ∧
 ∀ (n_6 n_7 n_8 n_9 n_10 : Nat)
 (w1 : World),
 Boxes w'.drew
 [(n_10,
 Obj.cells
 (arrI IntKind.u8 f_4 32 0 ++ [Value.slice p_4 n_5 c_4,
 Value.string x_29,
 Value.int IntKind.i64
 x_30,
 Value.bool x_31,
 Value.string x_32,
 Value.int IntKind.i64
 x_33]).toArray
 53),
 (n_9,
 Obj.cells
 (arrI IntKind.u8 f_3 32 0 ++ [Value.slice p_3 n_4 c_3,
 Value.string x_24,
 Value.int IntKind.i64
 x_25,
 Value.bool x_26,
 Value.string x_27,
 Value.int IntKind.i64
 x_28]).toArray
 53),
 (n_8,
 Obj.cells
 (arrI IntKind.u8 f_2 32 0 ++ [Value.slice p_2 n_3 c_2,
 Value.string x_19,
 Value.int IntKind.i64
 x_20,
 Value.bool x_21,
 Value.string x_22,
 Value.int IntKind.i64
 x_23]).toArray
 53),
 (n_7,
 Obj.cells
 (arrI IntKind.u8 f_1 32 0 ++ [Value.slice p_1 n_2 c_1,
 Value.string x_14,
 Value.int IntKind.i64
 x_15,
 Value.bool x_16,
 Value.string x_17,
 Value.int IntKind.i64
 x_18]).toArray
 53),
 (n_6,
 Obj.cells
 (arrI IntKind.u8 f 32 0 ++ [Value.slice p n c,
 Value.string x_9,
 Value.int IntKind.i64
 x_10,
 Value.bool x_11,
 Value.string x_12,
 Value.int IntKind.i64
 x_13]).toArray
 53)]
 w1 →
 ((∃ (u : Value),
 w1.cell?
 (Addr.mk n_6 (0 + 36)
 none) =
 some u) ∧
 w1.frozen?
 (Addr.mk n_6 (0 + 36)
 none) =
 false) ∧
 ∀ (w1_2 : World),
 PutB w1 n_6 (0 + 36)
 [Value.string
 (ByteArray.mk #[98])]
 w1_2 →
 ∀ (n : Nat) (w1 : World),
 NewB w1_2
 (Obj.cells
 #[Value.string
 (ByteArray.mk
 #[99, 111, 109, 112,
 46, 111, 115]),
 Value.string
 (ByteArray.mk
 #[99, 111, 109, 112,
 46, 98, 105, 110])]
 9)
 n w1 →
 ((∃ (u : Value),
 w1.cell?
 (Addr.mk n_7 (0 + 32)
 none) =
 some u) ∧
 w1.frozen?
 (Addr.mk n_7 (0 + 32)
 none) =
 false) ∧
 ∀ (w1_3 : World),
 PutB w1 n_7 (0 + 32)
 [Value.slice
 (some
 (Addr.mk n 0 none))
 2 2]
 w1_3 →
 ((∃ (u : Value),
 w1_3.cell?
 (Addr.mk n_8
 (0 + 34) none) =
 some u) ∧
 w1_3.frozen?
 (Addr.mk n_8
 (0 + 34) none) =
 false) ∧
 ∀ (w1 : World),
 PutB w1_3 n_8
 (0 + 34)
 [Value.int
 IntKind.i64 1001]
 w1 →
 ((∃ (u : Value),
 w1.cell?
 (Addr.mk n_9
 (0 + 33)
 none) =
 some u) ∧
 w1.frozen?
 (Addr.mk n_9
 (0 + 33)
 none) =
 false) ∧
 ∀ (w1_4 : World),
 PutB w1 n_9
 (0 + 33)
 [Value.string
 (ByteArray.mk
 #[108, 111,
 99, 97,
 108])]
 w1_4 →
 ∀ (n : Nat)
 (w1 : World),
 NewB w1_4
 (Obj.cells
 #[Value.string
 (ByteArray.mk
 #[99, 111,
 109, 112,
 46, 98,
 105,
 110])]
 9)
 n w1 →
 ((∃ (u :
 Value),
 w1.cell?
 (Addr.mk
 n_10
 (0 + 32)
 none) =
 some u) ∧
 w1.frozen?
 (Addr.mk
 n_10
 (0 + 32)
 none) =
 false) ∧
 ∀
 (w1_5 :
 World),
 PutB w1 n_10
 (0 + 32)
 [Value.slice
 (some
 (Addr.mk
 n 0
 none))
 1 1]
 w1_5 →
 ((∃ (u :
 Value),
 w1_5.cell?
 (Addr.mk
 n_10
 (0 +
 34)
 none) =
 some
 u) ∧
 w1_5.frozen?
 (Addr.mk
 n_10
 (0 +
 34)
 none) =
 false) ∧
 ∀
 (w1 :
 World),
 PutB w1_5
 n_10
 (0 + 34)
 [Value.int
 IntKind.i64
 5000]
 w1 →
 ((∃ (u :
 Value),
 w1.cell?
 (Addr.mk
 n_10
 (0 +
 35)
 none) =
 some
 u) ∧
 w1.frozen?
 (Addr.mk
 n_10
 (0 +
 35)
 none) =
 false) ∧
 ∀
 (w1_6 :
 World),
 PutB w1
 n_10
 (0 +
 35)
 [Value.bool
 true]
 w1_6 →
 CallsS
 Tryz.prog
 15
 #[Value.int
 IntKind.i64
 100]
 w1_6
 fun
 (e :
 Ending)
 (w' :
 World) =>
 ∃
 (x_34
 :
 Option
 Addr),
 ∃
 (x_35
 :
 Int),
 e =
 Ending.returned
 (Value.tuple
 #[Value.pointer
 x_34,
 Value.int
 IntKind.i64
 x_35]) ∧
 CallsS
 Tryz.prog
 16
 #[Value.pointer
 x_34,
 Value.int
 IntKind.i64
 60,
 Value.int
 IntKind.i64
 0]
 w'
 fun
 (e :
 Ending)
 (w' :
 World) =>
 ∃
 (x_36
 :
 Int),
 e =
 Ending.returned
 (Value.int
 IntKind.i64
 x_36) ∧
 CallsS
 Tryz.prog
 16
 #[Value.pointer
 x_34,
 Value.int
 IntKind.i64
 41,
 Value.int
 IntKind.i64
 1439]
 w'
 fun
 (e :
 Ending)
 (w' :
 World) =>
 ∃
 (x_37
 :
 Int),
 e =
 Ending.returned
 (Value.int
 IntKind.i64
 x_37) ∧
 CallsS
 Tryz.prog
 16
 #[Value.pointer
 x_34,
 Value.int
 IntKind.i64
 41,
 Value.int
 IntKind.i64
 1440]
 w'
 fun
 (e :
 Ending)
 (w' :
 World) =>
 ∃
 (x_38
 :
 Int),
 e =
 Ending.returned
 (Value.int
 IntKind.i64
 x_38) ∧
 ∃
 (f
 :
 Nat →
 Int),
 ∃
 (p
 :
 Option
 Addr),
 ∃
 (n
 :
 Nat),
 ∃
 (c
 :
 Nat),
 ∃
 (x_39
 :
 ByteArray),
 ∃
 (x_40
 :
 Int),
 ∃
 (x_41
 :
 Bool),
 ∃
 (x_42
 :
 ByteArray),
 ∃
 (x_43
 :
 Int),
 gimp
 (x_1 ==
 0 &&
 x_7 ==
 15 &&
 x_8)
 (AtL
 w'
 n_1
 0
 (arrI IntKind.u8 f 32 0 ++ [Value.slice
 p
 n
 c,
 Value.string
 x_39,
 Value.int
 IntKind.i64
 x_40,
 Value.bool
 x_41,
 Value.string
 x_42,
 Value.int
 IntKind.i64
 x_43])) ∧
 bsp
 (x_1 ==
 0 &&
 x_7 ==
 15 &&
 x_8)
 (CallsS
 Tryz.prog
 17
 #[Value.pointer
 x,
 Value.agg
 (arrI IntKind.u8 f 32 0 ++ [Value.slice
 p
 n
 c,
 Value.string
 x_39,
 Value.int
 IntKind.i64
 x_40,
 Value.bool
 x_41,
 Value.string
 x_42,
 Value.int
 IntKind.i64
 x_43]).toArray]
 w'
 fun
 (e :
 Ending)
 (w' :
 World) =>
 ∃
 (x_44
 :
 Int),
 e =
 Ending.returned
 (Value.int
 IntKind.i64
 x_44) ∧
 ∃
 (f
 :
 Nat →
 Int),
 ∃
 (p
 :
 Option
 Addr),
 ∃
 (n
 :
 Nat),
 ∃
 (c
 :
 Nat),
 ∃
 (x_45
 :
 ByteArray),
 ∃
 (x_46
 :
 Int),
 ∃
 (x_47
 :
 Bool),
 ∃
 (x_48
 :
 ByteArray),
 ∃
 (x_49
 :
 Int),
 gimp
 (true &&
 x_44 ==
 0)
 (AtL
 w'
 n_6
 0
 (arrI IntKind.u8 f 32 0 ++ [Value.slice
 p
 n
 c,
 Value.string
 x_45,
 Value.int
 IntKind.i64
 x_46,
 Value.bool
 x_47,
 Value.string
 x_48,
 Value.int
 IntKind.i64
 x_49])) ∧
 bsp
 (true &&
 x_44 ==
 0)
 (CallsS
 Tryz.prog
 17
 #[Value.pointer
 x,
 Value.agg
 (arrI IntKind.u8 f 32 0 ++ [Value.slice
 p
 n
 c,
 Value.string
 x_45,
 Value.int
 IntKind.i64
 x_46,
 Value.bool
 x_47,
 Value.string
 x_48,
 Value.int
 IntKind.i64
 x_49]).toArray]
 w'
 fun
 (e :
 Ending)
 (w' :
 World) =>
 ∃
 (x_50
 :
 Int),
 e =
 Ending.returned
 (Value.int
 IntKind.i64
 x_50) ∧
 ∃
 (f
 :
 Nat →
 Int),
 ∃
 (p
 :
 Option
 Addr),
 ∃
 (n
 :
 Nat),
 ∃
 (c
 :
 Nat),
 ∃
 (x_51
 :
 ByteArray),
 ∃
 (x_52
 :
 Int),
 ∃
 (x_53
 :
 Bool),
 ∃
 (x_54
 :
 ByteArray),
 ∃
 (x_55
 :
 Int),
 gimp
 (true &&
 x_50 ==
 1)
 (AtL
 w'
 n_7
 0
 (arrI IntKind.u8 f 32 0 ++ [Value.slice
 p
 n
 c,
 Value.string
 x_51,
 Value.int
 IntKind.i64
 x_52,
 Value.bool
 x_53,
 Value.string
 x_54,
 Value.int
 IntKind.i64
 x_55])) ∧
 bsp
 (true &&
 x_50 ==
 1)
 (CallsS
 Tryz.prog
 17
 #[Value.pointer
 x,
 Value.agg
 (arrI IntKind.u8 f 32 0 ++ [Value.slice
 p
 n
 c,
 Value.string
 x_51,
 Value.int
 IntKind.i64
 x_52,
 Value.bool
 x_53,
 Value.string
 x_54,
 Value.int
 IntKind.i64
 x_55]).toArray]
 w'
 fun
 (e :
 Ending)
 (w' :
 World) =>
 ∃
 (x_56
 :
 Int),
 e =
 Ending.returned
 (Value.int
 IntKind.i64
 x_56) ∧
 ∃
 (f
 :
 Nat →
 Int),
 ∃
 (p
 :
 Option
 Addr),
 ∃
 (n
 :
 Nat),
 ∃
 (c
 :
 Nat),
 ∃
 (x_57
 :
 ByteArray),
 ∃
 (x_58
 :
 Int),
 ∃
 (x_59
 :
 Bool),
 ∃
 (x_60
 :
 ByteArray),
 ∃
 (x_61
 :
 Int),
 gimp
 (true &&
 x_56 ==
 2)
 (AtL
 w'
 n_8
 0
 (arrI IntKind.u8 f 32 0 ++ [Value.slice
 p
 n
 c,
 Value.string
 x_57,
 Value.int
 IntKind.i64
 x_58,
 Value.bool
 x_59,
 Value.string
 x_60,
 Value.int
 IntKind.i64
 x_61])) ∧
 bsp
 (true &&
 x_56 ==
 2)
 (CallsS
 Tryz.prog
 17
 #[Value.pointer
 x,
 Value.agg
 (arrI IntKind.u8 f 32 0 ++ [Value.slice
 p
 n
 c,
 Value.string
 x_57,
 Value.int
 IntKind.i64
 x_58,
 Value.bool
 x_59,
 Value.string
 x_60,
 Value.int
 IntKind.i64
 x_61]).toArray]
 w'
 fun
 (e :
 Ending)
 (w' :
 World) =>
 ∃
 (x_62
 :
 Int),
 e =
 Ending.returned
 (Value.int
 IntKind.i64
 x_62) ∧
 ∃
 (f
 :
 Nat →
 Int),
 ∃
 (p
 :
 Option
 Addr),
 ∃
 (n
 :
 Nat),
 ∃
 (c
 :
 Nat),
 ∃
 (x_63
 :
 ByteArray),
 ∃
 (x_64
 :
 Int),
 ∃
 (x_65
 :
 Bool),
 ∃
 (x_66
 :
 ByteArray),
 ∃
 (x_67
 :
 Int),
 gimp
 (true &&
 x_62 ==
 3)
 (AtL
 w'
 n_9
 0
 (arrI IntKind.u8 f 32 0 ++ [Value.slice
 p
 n
 c,
 Value.string
 x_63,
 Value.int
 IntKind.i64
 x_64,
 Value.bool
 x_65,
 Value.string
 x_66,
 Value.int
 IntKind.i64
 x_67])) ∧
 bsp
 (true &&
 x_62 ==
 3)
 (CallsS
 Tryz.prog
 17
 #[Value.pointer
 x,
 Value.agg
 (arrI IntKind.u8 f 32 0 ++ [Value.slice
 p
 n
 c,
 Value.string
 x_63,
 Value.int
 IntKind.i64
 x_64,
 Value.bool
 x_65,
 Value.string
 x_66,
 Value.int
 IntKind.i64
 x_67]).toArray]
 w'
 fun
 (e :
 Ending)
 (w' :
 World) =>
 ∃
 (x_68
 :
 Int),
 e =
 Ending.returned
 (Value.int
 IntKind.i64
 x_68) ∧
 ∃
 (f
 :
 Nat →
 Int),
 ∃
 (p
 :
 Option
 Addr),
 ∃
 (n
 :
 Nat),
 ∃
 (c
 :
 Nat),
 ∃
 (x_69
 :
 ByteArray),
 ∃
 (x_70
 :
 Int),
 ∃
 (x_71
 :
 Bool),
 ∃
 (x_72
 :
 ByteArray),
 ∃
 (x_73
 :
 Int),
 gimp
 (true &&
 x_68 ==
 4)
 (AtL
 w'
 n_10
 0
 (arrI IntKind.u8 f 32 0 ++ [Value.slice
 p
 n
 c,
 Value.string
 x_69,
 Value.int
 IntKind.i64
 x_70,
 Value.bool
 x_71,
 Value.string
 x_72,
 Value.int
 IntKind.i64
 x_73])) ∧
 bsp
 (true &&
 x_68 ==
 4)
 (CallsS
 Tryz.prog
 17
 #[Value.pointer
 x,
 Value.agg
 (arrI IntKind.u8 f 32 0 ++ [Value.slice
 p
 n
 c,
 Value.string
 x_69,
 Value.int
 IntKind.i64
 x_70,
 Value.bool
 x_71,
 Value.string
 x_72,
 Value.int
 IntKind.i64
 x_73]).toArray]
 w'
 fun
 (e :
 Ending)
 (w' :
 World) =>
 ∃
 (x
 :
 Int),
 e =
 Ending.returned
 (Value.int
 IntKind.i64
 x) ∧
 bsp
 (true &&
 x ==
 0 &&
 x_35 ==
 0 &&
 x_36 ==
 0 &&
 x_37 ==
 9 &&
 x_38 ==
 0)
 (CallsS
 Tryz.prog
 18
 #[Value.pointer
 x_34,
 Value.int
 IntKind.i64
 1440]
 w'
 fun
 (e :
 Ending)
 (w' :
 World) =>
 ∃
 (x
 :
 Int),
 e =
 Ending.returned
 (Value.int
 IntKind.i64
 x) ∧
 R
 (Ending.returned
 (Value.bool
 (true &&
 x ==
 59)))
 w')
 (R
 (Ending.returned
 (Value.bool
 false))
 w'))
 (R
 (Ending.returned
 (Value.bool
 false))
 w'))
 (∃
 (f
 :
 Nat →
 Int),
 ∃
 (p
 :
 Option
 Addr),
 ∃
 (n
 :
 Nat),
 ∃
 (c
 :
 Nat),
 ∃
 (x
 :
 ByteArray),
 ∃
 (x
 :
 Int),
 ∃
 (x
 :
 Bool),
 ∃
 (x
 :
 ByteArray),
 ∃
 (x
 :
 Int),
 True ∧
 R
 (Ending.returned
 (Value.bool
 false))
 w'))
 (∃
 (f
 :
 Nat →
 Int),
 ∃
 (p
 :
 Option
 Addr),
 ∃
 (n
 :
 Nat),
 ∃
 (c
 :
 Nat),
 ∃
 (x
 :
 ByteArray),
 ∃
 (x
 :
 Int),
 ∃
 (x
 :
 Bool),
 ∃
 (x
 :
 ByteArray),
 ∃
 (x
 :
 Int),
 True ∧
 ∃
 (f
 :
 Nat →
 Int),
 ∃
 (p
 :
 Option
 Addr),
 ∃
 (n
 :
 Nat),
 ∃
 (c
 :
 Nat),
 ∃
 (x
 :
 ByteArray),
 ∃
 (x
 :
 Int),
 ∃
 (x
 :
 Bool),
 ∃
 (x
 :
 ByteArray),
 ∃
 (x
 :
 Int),
 True ∧
 R
 (Ending.returned
 (Value.bool
 false))
 w'))
 (∃
 (f
 :
 Nat →
 Int),
 ∃
 (p
 :
 Option
 Addr),
 ∃
 (n
 :
 Nat),
 ∃
 (c
 :
 Nat),
 ∃
 (x
 :
 ByteArray),
 ∃
 (x
 :
 Int),
 ∃
 (x
 :
 Bool),
 ∃
 (x
 :
 ByteArray),
 ∃
 (x
 :
 Int),
 True ∧
 ∃
 (f
 :
 Nat →
 Int),
 ∃
 (p
 :
 Option
 Addr),
 ∃
 (n
 :
 Nat),
 ∃
 (c
 :
 Nat),
 ∃
 (x
 :
 ByteArray),
 ∃
 (x
 :
 Int),
 ∃
 (x
 :
 Bool),
 ∃
 (x
 :
 ByteArray),
 ∃
 (x
 :
 Int),
 True ∧
 ∃
 (f
 :
 Nat →
 Int),
 ∃
 (p
 :
 Option
 Addr),
 ∃
 (n
 :
 Nat),
 ∃
 (c
 :
 Nat),
 ∃
 (x
 :
 ByteArray),
 ∃
 (x
 :
 Int),
 ∃
 (x
 :
 Bool),
 ∃
 (x
 :
 ByteArray),
 ∃
 (x
 :
 Int),
 True ∧
 R
 (Ending.returned
 (Value.bool
 false))
 w'))
 (∃
 (f
 :
 Nat →
 Int),
 ∃
 (p
 :
 Option
 Addr),
 ∃
 (n
 :
 Nat),
 ∃
 (c
 :
 Nat),
 ∃
 (x
 :
 ByteArray),
 ∃
 (x
 :
 Int),
 ∃
 (x
 :
 Bool),
 ∃
 (x
 :
 ByteArray),
 ∃
 (x
 :
 Int),
 True ∧
 ∃
 (f
 :
 Nat →
 Int),
 ∃
 (p
 :
 Option
 Addr),
 ∃
 (n
 :
 Nat),
 ∃
 (c
 :
 Nat),
 ∃
 (x
 :
 ByteArray),
 ∃
 (x
 :
 Int),
 ∃
 (x
 :
 Bool),
 ∃
 (x
 :
 ByteArray),
 ∃
 (x
 :
 Int),
 True ∧
 ∃
 (f
 :
 Nat →
 Int),
 ∃
 (p
 :
 Option
 Addr),
 ∃
 (n
 :
 Nat),
 ∃
 (c
 :
 Nat),
 ∃
 (x
 :
 ByteArray),
 ∃
 (x
 :
 Int),
 ∃
 (x
 :
 Bool),
 ∃
 (x
 :
 ByteArray),
 ∃
 (x
 :
 Int),
 True ∧
 ∃
 (f
 :
 Nat →
 Int),
 ∃
 (p
 :
 Option
 Addr),
 ∃
 (n
 :
 Nat),
 ∃
 (c
 :
 Nat),
 ∃
 (x
 :
 ByteArray),
 ∃
 (x
 :
 Int),
 ∃
 (x
 :
 Bool),
 ∃
 (x
 :
 ByteArray),
 ∃
 (x
 :
 Int),
 True ∧
 R
 (Ending.returned
 (Value.bool
 false))
 w'))
 (∃
 (f
 :
 Nat →
 Int),
 ∃
 (p
 :
 Option
 Addr),
 ∃
 (n
 :
 Nat),
 ∃
 (c
 :
 Nat),
 ∃
 (x
 :
 ByteArray),
 ∃
 (x
 :
 Int),
 ∃
 (x
 :
 Bool),
 ∃
 (x
 :
 ByteArray),
 ∃
 (x
 :
 Int),
 True ∧
 ∃
 (f
 :
 Nat →
 Int),
 ∃
 (p
 :
 Option
 Addr),
 ∃
 (n
 :
 Nat),
 ∃
 (c
 :
 Nat),
 ∃
 (x
 :
 ByteArray),
 ∃
 (x
 :
 Int),
 ∃
 (x
 :
 Bool),
 ∃
 (x
 :
 ByteArray),
 ∃
 (x
 :
 Int),
 True ∧
 ∃
 (f
 :
 Nat →
 Int),
 ∃
 (p
 :
 Option
 Addr),
 ∃
 (n
 :
 Nat),
 ∃
 (c
 :
 Nat),
 ∃
 (x
 :
 ByteArray),
 ∃
 (x
 :
 Int),
 ∃
 (x
 :
 Bool),
 ∃
 (x
 :
 ByteArray),
 ∃
 (x
 :
 Int),
 True ∧
 ∃
 (f
 :
 Nat →
 Int),
 ∃
 (p
 :
 Option
 Addr),
 ∃
 (n
 :
 Nat),
 ∃
 (c
 :
 Nat),
 ∃
 (x
 :
 ByteArray),
 ∃
 (x
 :
 Int),
 ∃
 (x
 :
 Bool),
 ∃
 (x
 :
 ByteArray),
 ∃
 (x
 :
 Int),
 True ∧
 ∃
 (f
 :
 Nat →
 Int),
 ∃
 (p
 :
 Option
 Addr),
 ∃
 (n
 :
 Nat),
 ∃
 (c
 :
 Nat),
 ∃
 (x
 :
 ByteArray),
 ∃
 (x
 :
 Int),
 ∃
 (x
 :
 Bool),
 ∃
 (x
 :
 ByteArray),
 ∃
 (x
 :
 Int),
 True ∧
 R
 (Ending.returned
 (Value.bool
 false))
 w')
theorem vc_known (w : World) (R : Ending → World → Prop) (h : VC_known w R) : Calls Tryz.prog 6 ([] : List Value).toArray w R := by
  have e : execR { P := Tryz.prog, loops := [], pur := pur1, tails := [(4, 5)], joins := [], boxes := [(4, ())] } Tryz.f6.results.toList R (Tryz.f6.body.getD .skip) (initF [] (Tryz.f6.ntmps - ([] : List Value).length)) w = VC_known w R := by kernel_rfl
  have hb : Tryz.f6.body = some (Tryz.f6.body.getD .skip) := by kernel_rfl
  exact calls_of_exec' (P := Tryz.prog) (fn := Tryz.f6) (c := Tryz.f6.body.getD .skip) (args := []) (w := w) (R := R) pur1_ok Tryz.func6 hb e h

end Go.Proofs.YtcpjajjocmpkjaaGreatDoor

/- The examples of the chapter hold: known returns true in every world in which the library's variable MaxLen holds a number. -/
namespace Go.Proofs.YtcpjajjocmpkjaaGreatDoor
open Go.RowKit

def kNb : ByteArray := ByteArray.mk #[98]
def kPs : ByteArray := ByteArray.mk #[99, 111, 109, 112, 46, 42, 44, 64, 42, 46, 98, 105, 110]
def kDs : List ByteArray := [ByteArray.mk #[119, 111, 114, 108, 100]]
def kOs : ByteArray := ByteArray.mk #[99, 111, 109, 112, 46, 111, 115]
def kBin : ByteArray := ByteArray.mk #[99, 111, 109, 112, 46, 98, 105, 110]
def kX : It := ⟨fun _ => 0, [kOs], ByteArray.mk #[], 1000, false, ByteArray.mk #[99], 5⟩
def kBack : It := { kX with fr := ByteArray.mk #[98] }
def kBn : It := { kX with gs := [kOs, kBin] }
def kLong : It := { kX with by_ := 1001 }
def kLocal : It := { kX with d := ByteArray.mk #[108, 111, 99, 97, 108] }
def kCtl : It := { kX with gs := [kBin], by_ := 5000, ct := true }
def esOf (s : ByteArray) : List Ent := match listR s with | .inl es => es | .inr _ => []
def verdP (es : List Ent) (s : ByteArray) : Int := es.foldl (fun a e => if pmF (elS e.els) (fun i k => elH e.els i (at8 s k)) e.els.length s.size = true then e.v else a) 0
theorem verd_pm (es : List Ent) (s : ByteArray) : verd es s = verdP es s := by unfold verd verdP; congr 1; funext a e; rw [match_pm]
def selP (es : List Ent) (zs : List ByteArray) : Bool := zs.all (fun z => !(verdP es z == 3)) && zs.any (fun z => verdP es z == 1)
theorem sel_pm (es : List Ent) (zs : List ByteArray) : selB es zs = selP es zs := by
  have : verd es = verdP es := funext fun s => verd_pm es s
  simp only [selB, selP, this]
section
set_option maxRecDepth 100000
theorem kChk : chkS kNb kPs 1000 10 kDs = 0 := by decide +kernel
theorem kSel1 : selP (esOf kPs) [kOs] = true := by decide +kernel
theorem kSel2 : selP (esOf kPs) [kOs, kBin] = false := by decide +kernel
theorem kW : Lib.containsS kDs (ByteArray.mk #[108, 111, 99, 97, 108]) = false := by decide +kernel
end
theorem rsn_eq {nb : ByteArray} {mb : Int} {ds : List ByteArray} {es : List Ent} {x : It} {v : Int} (h : (if (x.fr.toList == nb.toList) = true then (1 : Int) else if (!x.ct && !selP es x.gs) = true then 2 else if (!x.ct && mb != 0 && decide (mb < x.by_)) = true then 3 else if (!x.ct && decide ((ds.length : Int) > 0) && !x.d.toList == [] && !Lib.containsS ds x.d) = true then 4 else 0) = v) : rsnS nb mb ds es x = v := by
  rw [← h]; simp only [rsnS, rsnB, sel_pm]
section
set_option maxRecDepth 100000
theorem kR0 : rsnS kNb 1000 kDs (esOf kPs) kX = 0 := rsn_eq (by decide +kernel)
theorem kR1 : rsnS kNb 1000 kDs (esOf kPs) kBack = 1 := rsn_eq (by decide +kernel)
theorem kR2 : rsnS kNb 1000 kDs (esOf kPs) kBn = 2 := rsn_eq (by decide +kernel)
theorem kR3 : rsnS kNb 1000 kDs (esOf kPs) kLong = 3 := rsn_eq (by decide +kernel)
theorem kR4 : rsnS kNb 1000 kDs (esOf kPs) kLocal = 4 := rsn_eq (by decide +kernel)
theorem kR5 : rsnS kNb 1000 kDs (esOf kPs) kCtl = 0 := rsn_eq (by decide +kernel)
end
theorem strP_one {w : World} {n : Nat} {zs : List ByteArray} {t : TypeId} {f : Nat × Nat} (h : w.heap[n]? = some (.cells (zs.map Value.string).toArray t f)) : StrP w (some ⟨n, 0, none⟩) zs := fun j z hj => ⟨n, 0, rfl, by rw [Nat.zero_add, cell_block h]; simp [hj]⟩
theorem It.size (x : It) (p : Option Addr) (c : Nat) : (x.cells p c).size = 38 := rfl
theorem kOk (x : It) (h : x.gs.length ≤ 2) (hs : ∀ z ∈ x.gs, z.size ≤ 100) : x.ok := ⟨by omega, fun z hz => by have := hs z hz; omega⟩

set_option maxHeartbeats 2000000 in
theorem known_any (w : World) (hG : GW w) : Calls Tryz.prog 6 #[] w fun e w' => e = .returned (.bool true) ∧ K0 w w' := by
  refine vc_known w _ ?_
  unfold VC_known
  intro n w1 hn
  have hk1 : K0 w w1 := hn.kp _
  have hds : StrP w1 (some ⟨n, 0, none⟩) kDs := strP_one hn.block
  refine ⟨(fcompile_any kNb kPs 1000 10 (some ⟨n, 0, none⟩) 1 kDs w1 (by decide) (hG.kp hk1 (fun h => h)) hds (by decide) (by decide)).mono fun e w2 ⟨hk2, he⟩ => ?_⟩
  rcases he with ⟨h0, _⟩ | ⟨_, b, es, hL, he, hf⟩
  · exact absurd kChk h0
  have hes : es = esOf kPs := by unfold esOf; rw [hL]
  obtain ⟨h64, h80⟩ := listR_ok hL
  subst hes
  refine ⟨_, _, he, ?_⟩
  clear he
  have hk12 : K0 w w2 := hk1.trans hk2
  have hdl : kDs.length ≤ 1073741824 := by decide
  intro n2 w3 hn3 n1 w4 hn4
  refine ⟨WrL_block hn4.block (by simp), fun w5 hp5 => ?_⟩
  have hb5 : w5.heap[n1]? = some (.cells (kX.cells (some ⟨n2, 0, none⟩) 1) 53 (0, 0)) := hp5.full hn4.block rfl
  have hk25 : K0 w2 w5 := ((hn3.kp _).trans (hn4.kp _)).fresh hp5.kp (fun i hi e => by have := hn4.ge; have := (hn3.kp (fun _ => False)).size; omega)
  have hg5 : StrP w5 (some ⟨n2, 0, none⟩) kX.gs := ((strP_one (zs := [kOs]) hn3.block).kp (hn4.kp (fun _ => False)) (fun _ _ _ h => h)).kp hp5.kp (fun b o e => by
    simp only [Option.some.injEq, Addr.mk.injEq] at e
    have := block_lt hn3.block
    have := hn4.ge
    omega)
  have hf5 := hf.kp hk25 (fun _ _ _ h => h)
  refine ⟨kX.id, some ⟨n2, 0, none⟩, 1, 1, kX.d, kX.by_, kX.ct, kX.fr, kX.ar, AtL_block hb5 rfl, ?_⟩
  refine ⟨(due_any (x := kX) (p := some ⟨n2, 0, none⟩) (c := 1) hf5 hg5 h64 h80 hdl (kOk _ (by decide) (by decide)) (by decide) (by decide)).mono fun e w6 ⟨he, hk6⟩ => ?_⟩
  rw [kR0, if_pos rfl] at he
  refine ⟨_, _, he, ?_⟩
  clear he
  have hb6 := hk6.blk hb5 (fun h => h)
  have cpy : ∀ w', K0 w6.drew w' → AtL w' n1 0 (arrI IntKind.u8 kX.id 32 0 ++ [Value.slice (some ⟨n2, 0, none⟩) 1 1, Value.string kX.d, Value.int .i64 kX.by_, Value.bool kX.ct, Value.string kX.fr, Value.int .i64 kX.ar]) := fun w' hk => AtL_block (hk.blk (blk_drew hb6) (fun h => h)) rfl
  refine ⟨kX.id, some ⟨n2, 0, none⟩, 1, 1, kX.d, kX.by_, kX.ct, kX.fr, kX.ar, cpy, kX.id, some ⟨n2, 0, none⟩, 1, 1, kX.d, kX.by_, kX.ct, kX.fr, kX.ar, cpy, kX.id, some ⟨n2, 0, none⟩, 1, 1, kX.d, kX.by_, kX.ct, kX.fr, kX.ar, cpy,
    kX.id, some ⟨n2, 0, none⟩, 1, 1, kX.d, kX.by_, kX.ct, kX.fr, kX.ar, cpy, kX.id, some ⟨n2, 0, none⟩, 1, 1, kX.d, kX.by_, kX.ct, kX.fr, kX.ar, cpy, fun _ => rfl, fun _ => rfl, fun _ => rfl, fun _ => rfl, fun _ => rfl, fun _ => rfl, fun _ => rfl, fun _ => rfl, fun _ => rfl, fun _ => rfl, ?_⟩
  intro m1 m2 m3 m4 m5 w7 hB
  have hk67 : K0 w6 w7 := hB.kp.of_drew
  have blkOf : ∀ m, (m, Obj.cells (kX.cells (some ⟨n2, 0, none⟩) 1) 53 (0, 0)) ∈ [(m5, Obj.cells (kX.cells (some ⟨n2, 0, none⟩) 1) 53 (0, 0)), (m4, Obj.cells (kX.cells (some ⟨n2, 0, none⟩) 1) 53 (0, 0)), (m3, Obj.cells (kX.cells (some ⟨n2, 0, none⟩) 1) 53 (0, 0)), (m2, Obj.cells (kX.cells (some ⟨n2, 0, none⟩) 1) 53 (0, 0)), (m1, Obj.cells (kX.cells (some ⟨n2, 0, none⟩) 1) 53 (0, 0))] →
      w6.heap.size ≤ m ∧ w7.heap[m]? = some (.cells (kX.cells (some ⟨n2, 0, none⟩) 1) 53 (0, 0)) := fun m hm => hB.at_ m _ hm
  obtain ⟨g1, c1⟩ := blkOf m1 (by simp)
  obtain ⟨g2, c2⟩ := blkOf m2 (by simp)
  obtain ⟨g3, c3⟩ := blkOf m3 (by simp)
  obtain ⟨g4, c4⟩ := blkOf m4 (by simp)
  obtain ⟨g5, c5⟩ := blkOf m5 (by simp)
  have hne := hB.ne
  simp only [List.pairwise_cons, List.mem_cons, List.not_mem_nil, or_false, forall_eq_or_imp, forall_eq, ne_eq] at hne
  obtain ⟨⟨d54, d53, d52, d51⟩, ⟨d43, d42, d41⟩, ⟨d32, d31⟩, d21, _⟩ := hne
  clear blkOf hB cpy
  have h16 : n1 < w6.heap.size := block_lt hb6
  -- back.From = "b"
  refine ⟨cell_wr c1 (by rw [It.size]; decide), fun w8 hp8 => ?_⟩
  have b1 : w8.heap[m1]? = some (.cells (kBack.cells (some ⟨n2, 0, none⟩) 1) 53 (0, 0)) := hp8.block c1
  have b2 := hp8.kp.blk c2 (fun e => d21 e)
  have b3 := hp8.kp.blk c3 (fun e => d31 e)
  have b4 := hp8.kp.blk c4 (fun e => d41 e)
  have b5 := hp8.kp.blk c5 (fun e => d51 e)
  have hk68 : K0 w6 w8 := hk67.fresh hp8.kp (fun i hi e => by omega)
  clear hp8 c1 c2 c3 c4 c5 hk67
  -- bin.Groups
  intro s2 w9 hn9
  have k9 := hn9.kp (fun _ => False)
  have hs2 := hn9.ge
  have q2 := hn9.block
  have b1 := k9.blk b1 (fun h => h)
  have b2 := k9.blk b2 (fun h => h)
  have b3 := k9.blk b3 (fun h => h)
  have b4 := k9.blk b4 (fun h => h)
  have b5 := k9.blk b5 (fun h => h)
  have hk69 : K0 w6 w9 := hk68.trans k9
  have hs2w : w6.heap.size ≤ s2 := Nat.le_trans hk68.size hs2
  have e12 : s2 ≠ m1 ∧ s2 ≠ m2 ∧ s2 ≠ m3 ∧ s2 ≠ m4 ∧ s2 ≠ m5 := by
    refine ⟨?_, ?_, ?_, ?_, ?_⟩ <;> intro e <;> subst e
    · rw [q2] at b1; simp at b1
    · rw [q2] at b2; simp at b2
    · rw [q2] at b3; simp at b3
    · rw [q2] at b4; simp at b4
    · rw [q2] at b5; simp at b5
  clear hn9 k9 hk68
  refine ⟨cell_wr b2 (by rw [It.size]; decide), fun wa hpa => ?_⟩
  have b2 : wa.heap[m2]? = some (.cells (kBn.cells (some ⟨s2, 0, none⟩) 2) 53 (0, 0)) := hpa.block b2
  have b1 := hpa.kp.blk b1 (fun e => d21 e.symm)
  have b3 := hpa.kp.blk b3 (fun e => d32 e)
  have b4 := hpa.kp.blk b4 (fun e => d42 e)
  have b5 := hpa.kp.blk b5 (fun e => d52 e)
  have q2 := hpa.kp.blk q2 (fun e => e12.2.1 e)
  have hk6a : K0 w6 wa := hk69.fresh hpa.kp (fun i hi e => by omega)
  clear hpa hk69
  -- long.Bytes
  refine ⟨cell_wr b3 (by rw [It.size]; decide), fun wb hpb => ?_⟩
  have b3 : wb.heap[m3]? = some (.cells (kLong.cells (some ⟨n2, 0, none⟩) 1) 53 (0, 0)) := hpb.block b3
  have b1 := hpb.kp.blk b1 (fun e => d31 e.symm)
  have b2 := hpb.kp.blk b2 (fun e => d32 e.symm)
  have b4 := hpb.kp.blk b4 (fun e => d43 e)
  have b5 := hpb.kp.blk b5 (fun e => d53 e)
  have q2 := hpb.kp.blk q2 (fun e => e12.2.2.1 e)
  have hk6b : K0 w6 wb := hk6a.fresh hpb.kp (fun i hi e => by omega)
  clear hpb hk6a
  -- local.Distribution
  refine ⟨cell_wr b4 (by rw [It.size]; decide), fun wc hpc => ?_⟩
  have b4 : wc.heap[m4]? = some (.cells (kLocal.cells (some ⟨n2, 0, none⟩) 1) 53 (0, 0)) := hpc.block b4
  have b1 := hpc.kp.blk b1 (fun e => d41 e.symm)
  have b2 := hpc.kp.blk b2 (fun e => d42 e.symm)
  have b3 := hpc.kp.blk b3 (fun e => d43 e.symm)
  have b5 := hpc.kp.blk b5 (fun e => d54 e)
  have q2 := hpc.kp.blk q2 (fun e => e12.2.2.2.1 e)
  have hk6c : K0 w6 wc := hk6b.fresh hpc.kp (fun i hi e => by omega)
  clear hpc hk6b
  -- control
  intro s5 wd hnd
  have kd := hnd.kp (fun _ => False)
  have hs5 := hnd.ge
  have q5 := hnd.block
  have b1 := kd.blk b1 (fun h => h)
  have b2 := kd.blk b2 (fun h => h)
  have b3 := kd.blk b3 (fun h => h)
  have b4 := kd.blk b4 (fun h => h)
  have b5 := kd.blk b5 (fun h => h)
  have q2 := kd.blk q2 (fun h => h)
  have hk6d : K0 w6 wd := hk6c.trans kd
  have e5 : s5 ≠ m5 := by intro e; subst e; rw [q5] at b5; simp at b5
  clear hnd kd hk6c
  refine ⟨cell_wr b5 (by rw [It.size]; decide), fun we hpe => ?_⟩
  have b5 : we.heap[m5]? = some (.cells (({ kX with gs := [kBin] } : It).cells (some ⟨s5, 0, none⟩) 1) 53 (0, 0)) := hpe.block b5
  have b1 := hpe.kp.blk b1 (fun e => d51 e.symm)
  have b2 := hpe.kp.blk b2 (fun e => d52 e.symm)
  have b3 := hpe.kp.blk b3 (fun e => d53 e.symm)
  have b4 := hpe.kp.blk b4 (fun e => d54 e.symm)
  have q2 := hpe.kp.blk q2 (fun e => e12.2.2.2.2 e)
  have q5 := hpe.kp.blk q5 (fun e => e5 e)
  have hk6e : K0 w6 we := hk6d.fresh hpe.kp (fun i hi e => by omega)
  clear hpe hk6d
  refine ⟨cell_wr b5 (by rw [It.size]; decide), fun wf hpf => ?_⟩
  have b5 : wf.heap[m5]? = some (.cells (({ kX with gs := [kBin], by_ := 5000 } : It).cells (some ⟨s5, 0, none⟩) 1) 53 (0, 0)) := hpf.block b5
  have b1 := hpf.kp.blk b1 (fun e => d51 e.symm)
  have b2 := hpf.kp.blk b2 (fun e => d52 e.symm)
  have b3 := hpf.kp.blk b3 (fun e => d53 e.symm)
  have b4 := hpf.kp.blk b4 (fun e => d54 e.symm)
  have q2 := hpf.kp.blk q2 (fun e => e12.2.2.2.2 e)
  have q5 := hpf.kp.blk q5 (fun e => e5 e)
  have hk6f : K0 w6 wf := hk6e.fresh hpf.kp (fun i hi e => by omega)
  clear hpf hk6e
  refine ⟨cell_wr b5 (by rw [It.size]; decide), fun wg hpg => ?_⟩
  have b5 : wg.heap[m5]? = some (.cells (kCtl.cells (some ⟨s5, 0, none⟩) 1) 53 (0, 0)) := hpg.block b5
  have b1 := hpg.kp.blk b1 (fun e => d51 e.symm)
  have b2 := hpg.kp.blk b2 (fun e => d52 e.symm)
  have b3 := hpg.kp.blk b3 (fun e => d53 e.symm)
  have b4 := hpg.kp.blk b4 (fun e => d54 e.symm)
  have q2 := hpg.kp.blk q2 (fun e => e12.2.2.2.2 e)
  have q5 := hpg.kp.blk q5 (fun e => e5 e)
  have hk6g : K0 w6 wg := hk6f.fresh hpg.kp (fun i hi e => by omega)
  clear hpg hk6f
  have b0 := hk6g.blk hb6 (fun h => h)
  have hfg := (hf5.kp hk6 (fun _ _ _ h => h)).kp hk6g (fun _ _ _ h => h)
  have hgg := (hg5.kp hk6 (fun _ _ _ h => h)).kp hk6g (fun _ _ _ h => h)
  have hg2 : StrP wg (some ⟨s2, 0, none⟩) [kOs, kBin] := strP_one q2
  have hg5' : StrP wg (some ⟨s5, 0, none⟩) [kBin] := strP_one q5
  have hkg : K0 w wg := (hk12.trans (hk25.trans hk6)).trans hk6g
  clear hk6g hk6 hk25 hf5 hg5 hb5 hb6 hds hf
  -- the quota
  refine ⟨(newQuota_any 100 wg).mono fun e wh he => ?_⟩
  rcases he with ⟨h, _⟩ | ⟨_, qb, he, hq, hkh, hqb⟩
  · exact absurd h (by decide)
  refine ⟨_, _, he, ?_⟩
  clear he
  refine ⟨(take_any qb 60 0 _ wh hq (by decide)).mono fun e wi ⟨he, hqi, hki⟩ => ⟨_, he, ?_⟩⟩
  refine ⟨(take_any qb 41 1439 _ wi hqi (by decide)).mono fun e wj ⟨he, hqj, hkj⟩ => ⟨_, he, ?_⟩⟩
  refine ⟨(take_any qb 41 1440 _ wj hqj (by decide)).mono fun e wk ⟨he, hqk, hkk⟩ => ⟨_, he, ?_⟩⟩
  have hkA : K0 wg wk := ((hkh.fresh hki (fun i hi e => by omega)).fresh hkj (fun i hi e => by omega)).fresh hkk (fun i hi e => by omega)
  have hfA := hfg.kp hkA (fun _ _ _ h => h)
  have hkwA : K0 w wk := hkg.trans hkA
  -- the reasons
  have rs : ∀ (x : It) (m s c : Nat) (wx : World) (v : Int), K0 wk wx → wg.heap[m]? = some (.cells (x.cells (some ⟨s, 0, none⟩) c) 53 (0, 0)) → StrP wg (some ⟨s, 0, none⟩) x.gs → x.ok → rsnS kNb 1000 kDs (esOf kPs) x = v →
      AtL wx m 0 (arrI IntKind.u8 x.id 32 0 ++ [Value.slice (some ⟨s, 0, none⟩) x.gs.length c, Value.string x.d, Value.int .i64 x.by_, Value.bool x.ct, Value.string x.fr, Value.int .i64 x.ar]) ∧
      Calls Tryz.prog 17 #[.pointer (some ⟨b, 0, none⟩), .agg (x.cells (some ⟨s, 0, none⟩) c)] wx fun e w' => e = .returned (.int .i64 v) ∧ K0 wx w' := by
    intro x m s c wx v hkx hm hs hx hv
    refine ⟨AtL_block ((hkA.trans hkx).blk hm (fun h => h)) rfl, ?_⟩
    rw [← hv]
    exact reason_any (hfA.kp hkx (fun _ _ _ h => h)) (hs.kp (hkA.trans hkx) (fun _ _ _ h => h)) h64 h80 hdl hx
  obtain ⟨a1, r1⟩ := rs kX n1 n2 1 wk 0 (.refl _ _) b0 hgg (kOk _ (by decide) (by decide)) kR0
  refine ⟨kX.id, some ⟨n2, 0, none⟩, 1, 1, kX.d, kX.by_, kX.ct, kX.fr, kX.ar, gimp_intro fun _ => a1, bsp_intro (fun _ => ?_) (fun h => absurd h (by decide))⟩
  refine ⟨r1.mono fun e wl ⟨he, hkl⟩ => ⟨_, he, ?_⟩⟩
  obtain ⟨a1, r1⟩ := rs kBack m1 n2 1 wl 1 hkl b1 hgg (kOk _ (by decide) (by decide)) kR1
  refine ⟨kBack.id, some ⟨n2, 0, none⟩, 1, 1, kBack.d, kBack.by_, kBack.ct, kBack.fr, kBack.ar, gimp_intro fun _ => a1, bsp_intro (fun _ => ?_) (fun h => absurd h (by decide))⟩
  refine ⟨r1.mono fun e wl2 ⟨he, hk2⟩ => ⟨_, he, ?_⟩⟩
  have hkl := hkl.trans hk2
  obtain ⟨a1, r1⟩ := rs kBn m2 s2 2 wl2 2 hkl b2 hg2 (kOk _ (by decide) (by decide)) kR2
  refine ⟨kBn.id, some ⟨s2, 0, none⟩, 2, 2, kBn.d, kBn.by_, kBn.ct, kBn.fr, kBn.ar, gimp_intro fun _ => a1, bsp_intro (fun _ => ?_) (fun h => absurd h (by decide))⟩
  refine ⟨r1.mono fun e wl3 ⟨he, hk3⟩ => ⟨_, he, ?_⟩⟩
  have hkl := hkl.trans hk3
  obtain ⟨a1, r1⟩ := rs kLong m3 n2 1 wl3 3 hkl b3 hgg (kOk _ (by decide) (by decide)) kR3
  refine ⟨kLong.id, some ⟨n2, 0, none⟩, 1, 1, kLong.d, kLong.by_, kLong.ct, kLong.fr, kLong.ar, gimp_intro fun _ => a1, bsp_intro (fun _ => ?_) (fun h => absurd h (by decide))⟩
  refine ⟨r1.mono fun e wl4 ⟨he, hk4⟩ => ⟨_, he, ?_⟩⟩
  have hkl := hkl.trans hk4
  obtain ⟨a1, r1⟩ := rs kLocal m4 n2 1 wl4 4 hkl b4 hgg (kOk _ (by decide) (by decide)) kR4
  refine ⟨kLocal.id, some ⟨n2, 0, none⟩, 1, 1, kLocal.d, kLocal.by_, kLocal.ct, kLocal.fr, kLocal.ar, gimp_intro fun _ => a1, bsp_intro (fun _ => ?_) (fun h => absurd h (by decide))⟩
  refine ⟨r1.mono fun e wl5 ⟨he, hk5⟩ => ⟨_, he, ?_⟩⟩
  have hkl := hkl.trans hk5
  obtain ⟨a1, r1⟩ := rs kCtl m5 s5 1 wl5 0 hkl b5 hg5' (kOk _ (by decide) (by decide)) kR5
  refine ⟨kCtl.id, some ⟨s5, 0, none⟩, 1, 1, kCtl.d, kCtl.by_, kCtl.ct, kCtl.fr, kCtl.ar, gimp_intro fun _ => a1, bsp_intro (fun _ => ?_) (fun h => absurd h (by decide))⟩
  refine ⟨r1.mono fun e wl6 ⟨he, hk6⟩ => ⟨_, he, ?_⟩⟩
  have hkl := hkl.trans hk6
  refine bsp_intro (fun _ => ?_) (fun h => absurd h (by decide))
  refine ⟨(left_any qb 1440 _ wl6 (hkl.blk hqk (fun h => h)) (by decide) (by decide)).mono fun e wm ⟨he, hwm⟩ => ⟨_, he, ?_⟩⟩
  refine ⟨rfl, ?_⟩
  rcases hwm with rfl | rfl
  · exact hkwA.trans hkl
  · exact (hkwA.trans hkl).drew

end Go.Proofs.YtcpjajjocmpkjaaGreatDoor

/- The formulas of functions by the symbolic evaluator, and that each gives the call's contract. Written by a program (gen.py). No condition. -/
namespace Go.Proofs.YtcpjajjocmpkjaaGreatDoor
set_option maxRecDepth 100000
set_option linter.unusedVariables false

def VC_lto (nb : ByteArray) (ps : ByteArray) (mb : Int) (dl : Int) (p : Option Addr) (n : Nat) (c : Nat) (w : World) (R : Ending → World → Prop) : Prop :=
 ∃ (J : List Value → World → Prop),
 (∀ (n_1 : Nat) (w1 : World),
 NewB w
 (Obj.cells
 #[Value.string nb, Value.string ps, Value.int IntKind.i64 mb, Value.int IntKind.i64 dl, Value.slice p n c] 24)
 n_1 w1 →
 ∀ (n : Nat) (w1_1 : World),
 NewB w1
 (Obj.cells
 #[Value.string (ByteArray.mk #[]), Value.string (ByteArray.mk #[]), Value.int IntKind.i64 0,
 Value.int IntKind.i64 0, Value.slice none 0 0]
 26)
 n w1_1 →
 ∀ (n_2 : Nat) (w1 : World),
 NewB w1_1
 (Obj.cells
 #[Value.string (ByteArray.mk #[]), Value.string (ByteArray.mk #[]), Value.int IntKind.i64 0,
 Value.int IntKind.i64 0, Value.slice none 0 0]
 24)
 n_2 w1 →
 ∃ (S : World → Prop),
 S w1.drew ∧
 ∃ (x : ByteArray),
 (∀ (w' : World), S w' → w'.cell? (Addr.mk n_1 0 none) = some (Value.string x)) ∧
 ∃ (x_1 : ByteArray),
 (∀ (w' : World), S w' → w'.cell? (Addr.mk n_1 0 none) = some (Value.string x_1)) ∧
 ((0 ≤ if 40 < (↑x_1.size : Int) then 40 else (↑x_1.size : Int)) ∧
 (if 40 < (↑x_1.size : Int) then 40 else (↑x_1.size : Int)) ≤ (↑x.size : Int)) ∧
 ∃ (x_2 : ByteArray),
 (∀ (w' : World), S w' → w'.cell? (Addr.mk n_1 (0 + 1) none) = some (Value.string x_2)) ∧
 ∃ (x_3 : ByteArray),
 (∀ (w' : World), S w' → w'.cell? (Addr.mk n_1 (0 + 1) none) = some (Value.string x_3)) ∧
 ((0 ≤ if 300 < (↑x_3.size : Int) then 300 else (↑x_3.size : Int)) ∧
 (if 300 < (↑x_3.size : Int) then 300 else (↑x_3.size : Int)) ≤ (↑x_2.size : Int)) ∧
 ∃ (x_4 : Int),
 (∀ (w' : World), S w' → w'.cell? (Addr.mk n_1 (0 + 2) none) = some (Value.int IntKind.i64 x_4)) ∧
 ∃ (x_5 : Int),
 (∀ (w' : World), S w' → w'.cell? (Addr.mk n_1 (0 + 3) none) = some (Value.int IntKind.i64 x_5)) ∧
 ∀ (n_3 : Nat) (w1_2 : World),
 NewB w1.drew
 (Obj.cells
 #[Value.string (ByteArray.mk #[]), Value.string (ByteArray.mk #[]), Value.int IntKind.i64 0,
 Value.int IntKind.i64 0, Value.slice none 0 0]
 24)
 n_3 w1_2 →
 S w1_2 ∧
 WrL w1_2 n_3 0 5 ∧
 ∀ (w1 : World),
 PutB w1_2 n_3 0
 [Value.string
 (x.extract 0 (if 40 < (↑x_1.size : Int) then 40 else (↑x_1.size : Int)).toNat),
 Value.string
 (x_2.extract 0 (if 300 < (↑x_3.size : Int) then 300 else (↑x_3.size : Int)).toNat),
 Value.int IntKind.i64 x_4, Value.int IntKind.i64 x_5, Value.slice none 0 0]
 w1 →
 ∃ (I : List Value → World → Prop),
 ∃ (m : List Value → World → Nat),
 I [Value.int IntKind.i64 0] w1 ∧
 ∀ (x : Int) (w' : World),
 I [Value.int IntKind.i64 x] w' →
 ∃ (p : Option Addr),
 ∃ (n_4 : Nat),
 ∃ (c : Nat),
 w'.cell? (Addr.mk n_1 (0 + 4) none) = some (Value.slice p n_4 c) ∧
 bsp (decide (x < (↑n_4 : Int)) && decide (x < 10))
 (∃ (S : World → Prop),
 S w'.drew ∧
 ∃ (p : Option Addr),
 ∃ (n : Nat),
 ∃ (c : Nat),
 (∀ (w' : World),
 S w' → w'.cell? (Addr.mk n_3 (0 + 4) none) = some (Value.slice p n c)) ∧
 ∃ (p_1 : Option Addr),
 ∃ (n_5 : Nat),
 ∃ (c_1 : Nat),
 (∀ (w' : World),
 S w' →
 w'.cell? (Addr.mk n_1 (0 + 4) none) =
 some (Value.slice p_1 n_5 c_1)) ∧
 nn true p_1 fun (b o : Nat) =>
 (0 ≤ x ∧ x < (↑n_5 : Int)) ∧
 ∃ (x_6 : ByteArray),
 (∀ (w' : World),
 S w' →
 w'.cell? (Addr.mk b (o + x.toNat) none) =
 some (Value.string x_6)) ∧
 ∀ (n_6 : Nat) (w1 : World),
 NewB w'.drew (Obj.cells #[Value.string x_6] 9) n_6 w1 →
 S w1 ∧
 ∃ (base : Nat),
 ∃ (xs : List Value),
 ∃ (news : List Value),
 w1.ownsRow base 9 1 (Value.slice p n c) n xs ∧
 news.length = 1 ∧
 SrcP w1 (some (Addr.mk n_6 0 none)) news ∧
 n + 1 ≤ 9223372036854775807 ∧
 (n + 1) * 16 ≤ 140737488355328 ∧
 base ≤ w1.heap.size ∧
 ∀ (p' : Option Addr) (c' : Nat) (w'_1 : World),
 w'_1.ownsRow base 9 1 (Value.slice p' (n + 1) c')
 (n + 1) (xs ++ news) →
 w1.grownBy w'_1 (Value.slice p n c).ownBlock →
 ((∃ (u : Value),
 w'_1.cell? (Addr.mk n_3 (0 + 4) none) =
 some u) ∧
 w'_1.frozen? (Addr.mk n_3 (0 + 4) none) =
 false) ∧
 ∀ (w1 : World),
 PutB w'_1 n_3 (0 + 4) [Value.slice p' (n + 1) c']
 w1 →
 I
 [Value.int IntKind.i64
 (IntKind.i64.wrap (x + 1))]
 w1 ∧
 m
 [Value.int IntKind.i64
 (IntKind.i64.wrap (x + 1))]
 w1 <
 m [Value.int IntKind.i64 x] w')
 (∃ (S : World → Prop),
 S w'.drew ∧
 ∃ (x : ByteArray),
 (∀ (w' : World),
 S w' → w'.cell? (Addr.mk n_3 0 none) = some (Value.string x)) ∧
 ∃ (x_6 : ByteArray),
 (∀ (w' : World),
 S w' → w'.cell? (Addr.mk n_3 (0 + 1) none) = some (Value.string x_6)) ∧
 ∃ (x_7 : Int),
 (∀ (w' : World),
 S w' →
 w'.cell? (Addr.mk n_3 (0 + 2) none) =
 some (Value.int IntKind.i64 x_7)) ∧
 ∃ (x_8 : Int),
 (∀ (w' : World),
 S w' →
 w'.cell? (Addr.mk n_3 (0 + 3) none) =
 some (Value.int IntKind.i64 x_8)) ∧
 ∃ (p : Option Addr),
 ∃ (n_5 : Nat),
 ∃ (c : Nat),
 (∀ (w' : World),
 S w' →
 w'.cell? (Addr.mk n_3 (0 + 4) none) =
 some (Value.slice p n_5 c)) ∧
 ∃ (x_9 : ByteArray),
 ∃ (x_10 : ByteArray),
 ∃ (x_11 : Int),
 ∃ (x_12 : Int),
 ∃ (p_1 : Option Addr),
 ∃ (n_6 : Nat),
 ∃ (c : Nat),
 (∀ (w' : World),
 S w' →
 AtL w' n_3 0
 [Value.string x_9, Value.string x_10,
 Value.int IntKind.i64 x_11,
 Value.int IntKind.i64 x_12, Value.slice p_1 n_6 c]) ∧
 ∀ (n_7 : Nat) (w1 : World),
 NewB w'.drew (Obj.cells #[] 9) n_7 w1 →
 S w1 ∧
 ∃ (base : Nat),
 ∃ (xs : List Value),
 ∃ (news : List Value),
 w1.ownsRow base 9 1
 (Value.slice (some (Addr.mk n_7 0 none)) 0 0) 0
 xs ∧
 news.length = n_5 * 1 ∧
 SrcP w1 p news ∧
 0 + n_5 ≤ 9223372036854775807 ∧
 (0 + n_5) * 16 ≤ 140737488355328 ∧
 base ≤ w1.heap.size ∧
 ∀ (p' : Option Addr) (c' : Nat) (w' : World),
 w'.ownsRow base 9 1
 (Value.slice p' (0 + n_5) c') (0 + n_5)
 (xs ++ news) →
 w1.grownBy w'
 (Value.slice (some (Addr.mk n_7 0 none)) 0
 0).ownBlock →
 S w' ∧
 WrL w' n 0 5 ∧
 ∀ (w1 : World),
 PutB w' n 0
 [Value.string x, Value.string x_6,
 Value.int IntKind.i64 x_7,
 Value.int IntKind.i64 x_8,
 Value.slice p' (0 + n_5) c']
 w1 →
 S w1 ∧
 WrL w1 n_2 0 5 ∧
 ∀ (w1_3 : World),
 PutB w1 n_2 0
 [Value.string x_9,
 Value.string x_10,
 Value.int IntKind.i64 x_11,
 Value.int IntKind.i64 x_12,
 Value.slice p_1 n_6 c]
 w1_3 →
 J
 [Value.pointer
 (some (Addr.mk n 0 none)),
 Value.pointer
 (some (Addr.mk n_2 0 none))]
 w1_3)) ∧
 ∀ (x x_1 : Option Addr) (w' : World),
 J [Value.pointer x, Value.pointer x_1] w' →
 nn true x fun (b o : Nat) =>
 ∃ (x : ByteArray),
 ∃ (x_2 : ByteArray),
 ∃ (x_3 : Int),
 ∃ (x_4 : Int),
 ∃ (p : Option Addr),
 ∃ (n : Nat),
 ∃ (c : Nat),
 AtL w' b o
 [Value.string x, Value.string x_2, Value.int IntKind.i64 x_3, Value.int IntKind.i64 x_4,
 Value.slice p n c] ∧
 nn true x_1 fun (b o : Nat) =>
 ∃ (x_5 : ByteArray),
 ∃ (x_6 : ByteArray),
 ∃ (x_7 : Int),
 ∃ (x_8 : Int),
 ∃ (p_1 : Option Addr),
 ∃ (n_1 : Nat),
 ∃ (c_1 : Nat),
 AtL w' b o
 [Value.string x_5, Value.string x_6, Value.int IntKind.i64 x_7, Value.int IntKind.i64 x_8,
 Value.slice p_1 n_1 c_1] ∧
 R
 (Ending.returned
 (Value.tuple
 #[Value.agg
 #[Value.string x, Value.string x_2, Value.int IntKind.i64 x_3, Value.int IntKind.i64 x_4,
 Value.slice p n c],
 Value.agg
 #[Value.string x_5, Value.string x_6, Value.int IntKind.i64 x_7, Value.int IntKind.i64 x_8,
 Value.slice p_1 n_1 c_1]]))
 w'
theorem vc_lto (nb : ByteArray) (ps : ByteArray) (mb : Int) (dl : Int) (p : Option Addr) (n : Nat) (c : Nat) (w : World) (R : Ending → World → Prop) (h : VC_lto nb ps mb dl p n c w R) : Calls Tryz.prog 4 ([Value.agg
    #[Value.string nb, Value.string ps, Value.int IntKind.i64 mb, Value.int IntKind.i64 dl,
      Value.slice p n c]] : List Value).toArray w R := by
  have e : execR { P := Tryz.prog, loops := [(3, [(5, Ck.int IntKind.i64)])], pur := pur1, tails := [(1, 19), (5, 7), (6, 8)], joins := [(999999, [(2, .ptr), (3, .ptr)])], boxes := [] } Tryz.f4.results.toList R (Tryz.f4.body.getD .skip) (initF [Value.agg
    #[Value.string nb, Value.string ps, Value.int IntKind.i64 mb, Value.int IntKind.i64 dl,
      Value.slice p n
        c]] (Tryz.f4.ntmps - ([Value.agg
    #[Value.string nb, Value.string ps, Value.int IntKind.i64 mb, Value.int IntKind.i64 dl,
      Value.slice p n c]] : List Value).length)) w = VC_lto nb ps mb dl p n c w R := by kernel_rfl
  have hb : Tryz.f4.body = some (Tryz.f4.body.getD .skip) := by kernel_rfl
  exact calls_of_exec' (P := Tryz.prog) (fn := Tryz.f4) (c := Tryz.f4.body.getD .skip) (args := [Value.agg
    #[Value.string nb, Value.string ps, Value.int IntKind.i64 mb, Value.int IntKind.i64 dl,
      Value.slice p n c]]) (w := w) (R := R) pur1_ok Tryz.func4 hb e h

def VC_litem (a : Array Value) (w : World) (R : Ending → World → Prop) : Prop :=
 ∃ (J : List Value → World → Prop),
 (∀ (n : Nat) (w1 : World),
 NewB w (Obj.cells a 70) n w1 →
 ∀ (n_1 : Nat) (w1_1 : World),
 NewB w1
 (Obj.cells
 #[Value.int IntKind.u8 0, Value.int IntKind.u8 0, Value.int IntKind.u8 0, Value.int IntKind.u8 0,
 Value.int IntKind.u8 0, Value.int IntKind.u8 0, Value.int IntKind.u8 0, Value.int IntKind.u8 0,
 Value.int IntKind.u8 0, Value.int IntKind.u8 0, Value.int IntKind.u8 0, Value.int IntKind.u8 0,
 Value.int IntKind.u8 0, Value.int IntKind.u8 0, Value.int IntKind.u8 0, Value.int IntKind.u8 0,
 Value.int IntKind.u8 0, Value.int IntKind.u8 0, Value.int IntKind.u8 0, Value.int IntKind.u8 0,
 Value.int IntKind.u8 0, Value.int IntKind.u8 0, Value.int IntKind.u8 0, Value.int IntKind.u8 0,
 Value.int IntKind.u8 0, Value.int IntKind.u8 0, Value.int IntKind.u8 0, Value.int IntKind.u8 0,
 Value.int IntKind.u8 0, Value.int IntKind.u8 0, Value.int IntKind.u8 0, Value.int IntKind.u8 0,
 Value.slice none 0 0, Value.string (ByteArray.mk #[]), Value.int IntKind.i64 0, Value.bool false,
 Value.string (ByteArray.mk #[]), Value.int IntKind.i64 0]
 53)
 n_1 w1_1 →
 ∀ (n_2 : Nat) (w1 : World),
 NewB w1_1
 (Obj.cells
 #[Value.int IntKind.u8 0, Value.int IntKind.u8 0, Value.int IntKind.u8 0, Value.int IntKind.u8 0,
 Value.int IntKind.u8 0, Value.int IntKind.u8 0, Value.int IntKind.u8 0, Value.int IntKind.u8 0,
 Value.int IntKind.u8 0, Value.int IntKind.u8 0, Value.int IntKind.u8 0, Value.int IntKind.u8 0,
 Value.int IntKind.u8 0, Value.int IntKind.u8 0, Value.int IntKind.u8 0, Value.int IntKind.u8 0,
 Value.int IntKind.u8 0, Value.int IntKind.u8 0, Value.int IntKind.u8 0, Value.int IntKind.u8 0,
 Value.int IntKind.u8 0, Value.int IntKind.u8 0, Value.int IntKind.u8 0, Value.int IntKind.u8 0,
 Value.int IntKind.u8 0, Value.int IntKind.u8 0, Value.int IntKind.u8 0, Value.int IntKind.u8 0,
 Value.int IntKind.u8 0, Value.int IntKind.u8 0, Value.int IntKind.u8 0, Value.int IntKind.u8 0,
 Value.slice none 0 0, Value.string (ByteArray.mk #[]), Value.int IntKind.i64 0, Value.bool false,
 Value.string (ByteArray.mk #[]), Value.int IntKind.i64 0]
 70)
 n_2 w1 →
 ∀ (n_3 : Nat) (w1_2 : World),
 NewB w1 (Obj.cells #[] 9) n_3 w1_2 →
 ∃ (p : Option Addr),
 ∃ (n_4 : Nat),
 ∃ (c : Nat),
 w1_2.cell? (Addr.mk n (0 + 32) none) = some (Value.slice p n_4 c) ∧
 ∃ (p_1 : Option Addr),
 ∃ (n_5 : Nat),
 ∃ (c_1 : Nat),
 w1_2.cell? (Addr.mk n (0 + 32) none) = some (Value.slice p_1 n_5 c_1) ∧
 ((0 ≤ if 20 < (↑n_5 : Int) then 20 else (↑n_5 : Int)) ∧
 (if 20 < (↑n_5 : Int) then 20 else (↑n_5 : Int)) ≤ (↑c : Int)) ∧
 ∃ (base : Nat),
 ∃ (xs : List Value),
 ∃ (news : List Value),
 w1_2.ownsRow base 9 1 (Value.slice (some (Addr.mk n_3 0 none)) 0 0) 0 xs ∧
 news.length = (if 20 < (↑n_5 : Int) then 20 else (↑n_5 : Int)).toNat * 1 ∧
 SrcP w1_2 p news ∧
 0 + (if 20 < (↑n_5 : Int) then 20 else (↑n_5 : Int)).toNat ≤ 9223372036854775807 ∧
 (0 + (if 20 < (↑n_5 : Int) then 20 else (↑n_5 : Int)).toNat) * 16 ≤ 140737488355328 ∧
 base ≤ w1_2.heap.size ∧
 ∀ (p' : Option Addr) (c' : Nat) (w' : World),
 w'.ownsRow base 9 1
 (Value.slice p' (0 + (if 20 < (↑n_5 : Int) then 20 else (↑n_5 : Int)).toNat) c')
 (0 + (if 20 < (↑n_5 : Int) then 20 else (↑n_5 : Int)).toNat) (xs ++ news) →
 w1_2.grownBy w' (Value.slice (some (Addr.mk n_3 0 none)) 0 0).ownBlock →
 ((∃ (u : Value), w'.cell? (Addr.mk n (0 + 32) none) = some u) ∧
 w'.frozen? (Addr.mk n (0 + 32) none) = false) ∧
 ∀ (w1 : World),
 PutB w' n (0 + 32)
 [Value.slice p' (0 + (if 20 < (↑n_5 : Int) then 20 else (↑n_5 : Int)).toNat) c'] w1 →
 ∃ (S : World → Prop),
 S w1.drew ∧
 ∃ (f : Nat → Int),
 (∀ (w' : World),
 S w' →
 AtL w' n 0
 (arrI IntKind.u8 f 32 0)) ∧
 ∃ (p : Option Addr),
 ∃ (n_6 : Nat),
 ∃ (c : Nat),
 (∀ (w' : World),
 S w' → w'.cell? (Addr.mk n (0 + 32) none) = some (Value.slice p n_6 c)) ∧
 ∃ (x : ByteArray),
 (∀ (w' : World),
 S w' → w'.cell? (Addr.mk n (0 + 33) none) = some (Value.string x)) ∧
 ∃ (x_1 : Int),
 (∀ (w' : World),
 S w' →
 w'.cell? (Addr.mk n (0 + 34) none) = some (Value.int IntKind.i64 x_1)) ∧
 ∃ (x_2 : Bool),
 (∀ (w' : World),
 S w' → w'.cell? (Addr.mk n (0 + 35) none) = some (Value.bool x_2)) ∧
 ∃ (x_3 : ByteArray),
 (∀ (w' : World),
 S w' →
 w'.cell? (Addr.mk n (0 + 36) none) = some (Value.string x_3)) ∧
 ∃ (x_4 : Int),
 (∀ (w' : World),
 S w' →
 w'.cell? (Addr.mk n (0 + 37) none) =
 some (Value.int IntKind.i64 x_4)) ∧
 ∃ (f_1 : Nat → Int),
 ∃ (p_2 : Option Addr),
 ∃ (n_7 : Nat),
 ∃ (c : Nat),
 ∃ (x_5 : ByteArray),
 ∃ (x_6 : Int),
 ∃ (x_7 : Bool),
 ∃ (x_8 : ByteArray),
 ∃ (x_9 : Int),
 (∀ (w' : World),
 S w' →
 AtL w' n 0
 (arrI IntKind.u8 f_1 32 0 ++ [Value.slice p_2 n_7 c,
 Value.string x_5, Value.int IntKind.i64 x_6,
 Value.bool x_7, Value.string x_8,
 Value.int IntKind.i64 x_9])) ∧
 ∀ (n : Nat) (w1_3 : World),
 NewB w1.drew (Obj.cells #[] 9) n w1_3 →
 S w1_3 ∧
 ∃ (base : Nat),
 ∃ (xs : List Value),
 ∃ (news : List Value),
 w1_3.ownsRow base 9 1
 (Value.slice (some (Addr.mk n 0 none)) 0 0) 0 xs ∧
 news.length = n_6 * 1 ∧
 SrcP w1_3 p news ∧
 0 + n_6 ≤ 9223372036854775807 ∧
 (0 + n_6) * 16 ≤ 140737488355328 ∧
 base ≤ w1_3.heap.size ∧
 ∀ (p' : Option Addr) (c' : Nat) (w' : World),
 w'.ownsRow base 9 1
 (Value.slice p' (0 + n_6) c') (0 + n_6)
 (xs ++ news) →
 w1_3.grownBy w'
 (Value.slice (some (Addr.mk n 0 none)) 0
 0).ownBlock →
 S w' ∧
 WrL w' n_1 0 38 ∧
 ∀ (w1 : World),
 PutB w' n_1 0
 (arrI IntKind.u8 f 32 0 ++ [Value.slice p' (0 + n_6) c',
 Value.string x,
 Value.int IntKind.i64 x_1,
 Value.bool x_2, Value.string x_3,
 Value.int IntKind.i64 x_4])
 w1 →
 S w1 ∧
 WrL w1 n_2 0 38 ∧
 ∀ (w1_4 : World),
 PutB w1 n_2 0
 (arrI IntKind.u8 f_1 32 0 ++ [Value.slice p_2 n_7 c,
 Value.string x_5,
 Value.int IntKind.i64 x_6,
 Value.bool x_7, Value.string x_8,
 Value.int IntKind.i64 x_9])
 w1_4 →
 J
 [Value.pointer
 (some (Addr.mk n_1 0 none)),
 Value.pointer
 (some (Addr.mk n_2 0 none))]
 w1_4) ∧
 ∀ (x x_1 : Option Addr) (w' : World),
 J [Value.pointer x, Value.pointer x_1] w' →
 nn true x fun (b o : Nat) =>
 ∃ (f : Nat → Int),
 ∃ (p : Option Addr),
 ∃ (n : Nat),
 ∃ (c : Nat),
 ∃ (x : ByteArray),
 ∃ (x_2 : Int),
 ∃ (x_3 : Bool),
 ∃ (x_4 : ByteArray),
 ∃ (x_5 : Int),
 AtL w' b o
 (arrI IntKind.u8 f 32 0 ++ [Value.slice p n c, Value.string x,
 Value.int IntKind.i64 x_2, Value.bool x_3, Value.string x_4, Value.int IntKind.i64 x_5]) ∧
 nn true x_1 fun (b o : Nat) =>
 ∃ (f_1 : Nat → Int),
 ∃ (p_1 : Option Addr),
 ∃ (n_1 : Nat),
 ∃ (c_1 : Nat),
 ∃ (x_6 : ByteArray),
 ∃ (x_7 : Int),
 ∃ (x_8 : Bool),
 ∃ (x_9 : ByteArray),
 ∃ (x_10 : Int),
 AtL w' b o
 (arrI IntKind.u8 f_1 32 0 ++ [Value.slice p_1 n_1 c_1,
 Value.string x_6, Value.int IntKind.i64 x_7, Value.bool x_8, Value.string x_9,
 Value.int IntKind.i64 x_10]) ∧
 R
 (Ending.returned
 (Value.tuple
 #[Value.agg
 (arrI IntKind.u8 f 32 0 ++ [Value.slice p n c,
 Value.string x, Value.int IntKind.i64 x_2, Value.bool x_3, Value.string x_4,
 Value.int IntKind.i64 x_5]).toArray,
 Value.agg
 (arrI IntKind.u8 f_1 32 0 ++ [Value.slice p_1 n_1 c_1,
 Value.string x_6, Value.int IntKind.i64 x_7, Value.bool x_8, Value.string x_9,
 Value.int IntKind.i64 x_10]).toArray]))
 w'
theorem vc_litem (a : Array Value) (w : World) (R : Ending → World → Prop) (h : VC_litem a w R) : Calls Tryz.prog 23 ([Value.agg
    a] : List Value).toArray w R := by
  have e : execR { P := Tryz.prog, loops := [], pur := pur1, tails := [(2, 2)], joins := [(999999, [(2, .ptr), (3, .ptr)])], boxes := [] } Tryz.f23.results.toList R (Tryz.f23.body.getD .skip) (initF [Value.agg
    a] (Tryz.f23.ntmps - ([Value.agg a] : List Value).length)) w = VC_litem a w R := by kernel_rfl
  have hb : Tryz.f23.body = some (Tryz.f23.body.getD .skip) := by kernel_rfl
  exact calls_of_exec' (P := Tryz.prog) (fn := Tryz.f23) (c := Tryz.f23.body.getD .skip) (args := [Value.agg
    a]) (w := w) (R := R) pur1_ok Tryz.func23 hb e h

end Go.Proofs.YtcpjajjocmpkjaaGreatDoor
