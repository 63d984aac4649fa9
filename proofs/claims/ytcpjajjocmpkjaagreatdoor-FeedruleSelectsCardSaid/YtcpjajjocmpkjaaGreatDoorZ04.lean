/- Functions without an effect (IsLower, IsDigit, isPermitted, alnum, Char, IndexByte, HasPrefix), and isStar, stands,, by plain functions. No condition. -/
import Derived.Test.YtcpjajjocmpkjaaGreatDoorZ03
import Derived.Test.YtcpjajjocmpkjaaGreatDoorProg
import Derived.Test.YtcpjajjocmpkjaaGreatDoorZ02
import Derived.KernelRfl
namespace Go.Proofs.YtcpjajjocmpkjaaGreatDoor
open Go.RowKit

def lowerB (c : Int) : Bool := decide (97 ≤ c) && decide (c ≤ 122)
def digitB (c : Int) : Bool := decide (48 ≤ c) && decide (c ≤ 57)
def permB (c : Int) : Bool := lowerB c || digitB c || c == 45 || c == 46
def alnumI (c : Int) : Int := if lowerB c = true then 1 else if digitB c = true then 2 else 0
def charB (c : Int) : Bool := lowerB c || digitB c || c == 43 || c == 45 || c == 95 || c == 46
theorem isLower_any (c : Int) (w : World) : Calls Tryz.prog 51 #[.int .u8 c] w fun e w' => e = .returned (.bool (lowerB c)) ∧ w' = w := vc_isLower c w _ ⟨rfl, rfl⟩
theorem isDigit_any (c : Int) (w : World) : Calls Tryz.prog 52 #[.int .u8 c] w fun e w' => e = .returned (.bool (digitB c)) ∧ w' = w := vc_isDigit c w _ ⟨rfl, rfl⟩
theorem isPermitted_any (c : Int) (w : World) : Calls Tryz.prog 50 #[.int .u8 c] w fun e w' => e = .returned (.bool (permB c)) ∧ w' = w := by
  refine vc_isPermitted c w _ ⟨(isLower_any c w).mono fun e w' ⟨he, hw⟩ => ⟨_, he, ?_⟩⟩
  subst hw
  refine bsp_intro (fun h => ⟨(isDigit_any c w').mono fun e w' ⟨he, hw⟩ => ⟨_, he, ?_, hw⟩⟩) (fun h => ⟨?_, rfl⟩)
  · have h : lowerB c = false := by simpa using h
    simp [permB, h]
  · have h : lowerB c = true := by simpa using h
    simp [permB, h]
theorem alnum_any (c : Int) (w : World) : Calls Tryz.prog 80 #[.int .u8 c] w fun e w' => e = .returned (.int .i64 (alnumI c)) ∧ w' = w := by
  refine vc_alnum c w _ (bsp_intro (fun h => ?_) fun h => bsp_intro (fun h1 => ?_) fun h1 => ?_)
  · have h : lowerB c = true := h
    exact ⟨by simp [alnumI, h], rfl⟩
  · have h : lowerB c = false := h
    have h1 : digitB c = true := h1
    exact ⟨by simp [alnumI, h, h1], rfl⟩
  · have h : lowerB c = false := h
    have h1 : digitB c = false := h1
    exact ⟨by simp [alnumI, h, h1], rfl⟩
theorem alnumI_pos (c : Int) : decide (alnumI c > 0) = (lowerB c || digitB c) := by
  unfold alnumI; cases lowerB c <;> cases digitB c <;> simp
theorem char_any (c : Int) (w : World) : Calls Tryz.prog 59 #[.int .u8 c] w fun e w' => e = .returned (.bool (charB c)) ∧ w' = w := by
  refine vc_char c w _ ⟨(alnum_any c w).mono fun e w' ⟨he, hw⟩ => ⟨_, he, ?_, hw⟩⟩
  rw [alnumI_pos]
  simp [charB]

/-- An element of a pattern. -/
inductive El where
  | lit (s : ByteArray)
  | one
  | star
  | cls (s : ByteArray)
/-- '+-.0123456789_abcdefghijklmnopqrstuvwxyz'. -/
def nameBytes : ByteArray := ⟨#[43, 45, 46, 48, 49, 50, 51, 52, 53, 54, 55, 56, 57, 95, 97, 98, 99, 100, 101, 102, 103, 104, 105, 106, 107, 108, 109, 110, 111, 112, 113, 114, 115, 116, 117, 118, 119, 120, 121, 122]⟩
def El.val : El → Value
  | .lit s => .iface 130 (.string s)
  | .one => .iface 124 (.agg #[])
  | .star => .iface 125 (.agg #[])
  | .cls s => .iface 126 (.string s)
def El.chars : El → ByteArray
  | .lit s => s
  | .one => nameBytes
  | .star => nameBytes
  | .cls s => s
def El.isStar : El → Bool
  | .star => true
  | _ => false
def hasB (s : ByteArray) (c : Int) : Bool := s.data.toList.contains c.toNat.toUInt8
theorem indexByte_nonneg (l : List UInt8) (c : UInt8) : decide (0 ≤ Lib.indexByte l c) = l.contains c := by
  induction l with
  | nil => rfl
  | cons b r ih =>
    have hb : Lib.indexByte (b :: r) c = if b == c then 0 else if Lib.indexByte r c == -1 then -1 else Lib.indexByte r c + 1 := rfl
    rw [hb, List.contains_cons]
    by_cases h : b = c
    · subst h; simp
    · have h1 : (b == c) = false := by simpa using h
      have h2 : (c == b) = false := by simpa using fun e => h e.symm
      rw [h1, h2]
      simp only [Bool.false_or]
      rw [← ih]
      have hge : -1 ≤ Lib.indexByte r c := by
        clear ih hb
        induction r with
        | nil => exact Int.le_refl _
        | cons x r ih => 
          have hx : Lib.indexByte (x :: r) c = if x == c then 0 else if Lib.indexByte r c == -1 then -1 else Lib.indexByte r c + 1 := rfl
          rw [hx]; split
          · decide
          · split
            · decide
            · omega
      by_cases h3 : Lib.indexByte r c = -1
      · simp [h3]
      · have : (Lib.indexByte r c == -1) = false := by simpa using h3
        rw [this]
        apply decide_eq_decide.2
        simp only [Bool.false_eq_true, if_false]
        omega
theorem indexByte_any (s : ByteArray) (c : Int) (w : World) : Calls Tryz.prog 57 #[.string s, .int .u8 c] w fun e w' => e = .returned (.int .i64 (Lib.indexByte s.data.toList c.toNat.toUInt8)) ∧ w' = w := Tryz.strings_IndexByte s c w
theorem isStar_any (x : El) (w : World) : Calls Tryz.prog 94 #[x.val] w fun e w' => e = .returned (.bool x.isStar) ∧ K0 w w' := by
  cases x with
  | lit s => exact vc_isStarL s w _ fun n w1 hn => ⟨trivial, fun w2 hp => ⟨rfl, (hn.kp _).trans (by rw [hp.hw]; exact .refl _ _)⟩⟩
  | cls s => exact vc_isStarC s w _ fun n w1 hn => ⟨trivial, fun w2 hp => ⟨rfl, (hn.kp _).trans (by rw [hp.hw]; exact .refl _ _)⟩⟩
  | one => exact vc_isStarQ w _ fun n w1 hn => ⟨trivial, fun w2 hp => ⟨rfl, (hn.kp _).trans (by rw [hp.hw]; exact .refl _ _)⟩⟩
  | star => exact vc_isStarS w _ fun n w1 hn => ⟨trivial, fun w2 hp => ⟨rfl, (hn.kp _).trans (by rw [hp.hw]; exact .refl _ _)⟩⟩
theorem stands_any (x : El) (c : Int) (w : World) : Calls Tryz.prog 93 #[x.val, .int .u8 c] w fun e w' => e = .returned (.bool (hasB x.chars c)) ∧ K0 w w' := by
  have key : ∀ (s : ByteArray) (w1 : World), K0 w w1 → CallsS Tryz.prog 57 #[.string s, .int .u8 c] w1 fun e w' => ∃ x : Int, e = .returned (.int .i64 x) ∧ (Ending.returned (.bool (decide (x ≥ 0))) = .returned (.bool (hasB s c)) ∧ K0 w w') := fun s w1 h1 =>
    ⟨(indexByte_any s c w1).mono fun e w' ⟨he, hw⟩ => ⟨_, he, by rw [show decide (Lib.indexByte s.data.toList c.toNat.toUInt8 ≥ 0) = hasB s c from indexByte_nonneg _ _], hw ▸ h1⟩⟩
  cases x with
  | lit s => exact vc_standsL s c w _ ⟨(vc_litChars s w (fun e w' => e = .returned (.string s) ∧ K0 w w') ⟨rfl, .refl _ _⟩).mono fun e w' ⟨he, hw⟩ => ⟨_, he, key s w' hw⟩⟩
  | cls s => exact vc_standsC s c w _ ⟨(vc_classChars s w (fun e w' => e = .returned (.string s) ∧ K0 w w') ⟨rfl, .refl _ _⟩).mono fun e w' ⟨he, hw⟩ => ⟨_, he, key s w' hw⟩⟩
  | one => exact vc_standsQ c w _ ⟨(vc_singleChars w (fun e w' => e = .returned (.string nameBytes) ∧ K0 w w') fun n w1 hn => ⟨rfl, hn.kp _⟩).mono fun e w' ⟨he, hw⟩ => ⟨_, he, key _ w' hw⟩⟩
  | star => exact vc_standsS c w _ ⟨(vc_starChars w (fun e w' => e = .returned (.string nameBytes) ∧ K0 w w') fun n w1 hn => ⟨rfl, hn.kp _⟩).mono fun e w' ⟨he, hw⟩ => ⟨_, he, key _ w' hw⟩⟩

def pur1 (f : FuncId) (args : List Value) : Option (Option Prop × Value) :=
  match f with
  | 51 => (match args with | [.int .u8 c] => some (none, .bool (lowerB c)) | _ => none)
  | 52 => (match args with | [.int .u8 c] => some (none, .bool (digitB c)) | _ => none)
  | 50 => (match args with | [.int .u8 c] => some (none, .bool (permB c)) | _ => none)
  | 80 => (match args with | [.int .u8 c] => some (none, .int .i64 (alnumI c)) | _ => none)
  | 59 => (match args with | [.int .u8 c] => some (none, .bool (charB c)) | _ => none)
  | 57 => (match args with | [.string s, .int .u8 c] => some (none, .int .i64 (Lib.indexByte s.data.toList c.toNat.toUInt8)) | _ => none)
  | 36 => (match args with | [.string s, .string p] => some (none, .bool (Lib.hasPrefix s.data.toList p.data.toList)) | _ => none)
  | _ => none
theorem pur1_ok {l : List (Nat × List (Nat × Ck))} {t : List (Nat × Nat)} {j : List (Nat × List (Nat × Ck))} {b : List (Nat × Unit)} : PurOK { P := Tryz.prog, loops := l, pur := pur1, tails := t, joins := j, boxes := b } := fun f args p v h _ => by
  have key : ∀ (fn : Func), Tryz.prog.funcs[f]? = some fn → (fn.name == "runtime.NumGoroutine") = false → fn.body.isNone = false → ∃ fn, Tryz.prog.funcs[f]? = some fn ∧ (fn.name == "runtime.NumGoroutine") = false ∧ fn.body.isNone = false := fun fn h1 h2 h3 => ⟨fn, h1, h2, h3⟩
  simp only [pur1] at h
  split at h
  · split at h
    · simp at h; obtain ⟨rfl, rfl⟩ := h; exact ⟨fun w => isLower_any _ w, key _ Tryz.func51 (by decide) (by decide)⟩
    · simp at h
  · split at h
    · simp at h; obtain ⟨rfl, rfl⟩ := h; exact ⟨fun w => isDigit_any _ w, key _ Tryz.func52 (by decide) (by decide)⟩
    · simp at h
  · split at h
    · simp at h; obtain ⟨rfl, rfl⟩ := h; exact ⟨fun w => isPermitted_any _ w, key _ Tryz.func50 (by decide) (by decide)⟩
    · simp at h
  · split at h
    · simp at h; obtain ⟨rfl, rfl⟩ := h; exact ⟨fun w => alnum_any _ w, key _ Tryz.func80 (by decide) (by decide)⟩
    · simp at h
  · split at h
    · simp at h; obtain ⟨rfl, rfl⟩ := h; exact ⟨fun w => char_any _ w, key _ Tryz.func59 (by decide) (by decide)⟩
    · simp at h
  · split at h
    · simp at h; obtain ⟨rfl, rfl⟩ := h; exact ⟨fun w => indexByte_any _ _ w, key _ Tryz.func57 (by decide) (by decide)⟩
    · simp at h
  · split at h
    · simp at h; obtain ⟨rfl, rfl⟩ := h; exact ⟨fun w => Tryz.strings_HasPrefix _ _ w, key _ Tryz.func36 (by decide) (by decide)⟩
    · simp at h
  · simp at h

end Go.Proofs.YtcpjajjocmpkjaaGreatDoor

/- The formulas of functions by the symbolic evaluator, and that each gives the call's contract. Written by a program (gen.py). No condition. -/
namespace Go.Proofs.YtcpjajjocmpkjaaGreatDoor
set_option maxRecDepth 100000
set_option linter.unusedVariables false

def VC_site (s : ByteArray) (w : World) (R : Ending → World → Prop) : Prop :=
 bsp (s.toList == []) (R (Ending.returned (Value.tuple #[Value.int IntKind.i64 0, Value.int IntKind.i64 4])) w)
 (bsp (decide ((↑s.size : Int) > 30))
 (R (Ending.returned (Value.tuple #[Value.int IntKind.i64 30, Value.int IntKind.i64 5])) w)
 (∃ (I : List Value → World → Prop),
 ∃ (m : List Value → World → Nat),
 I [Value.int IntKind.i64 0] w ∧
 ∀ (x : Int) (w' : World),
 I [Value.int IntKind.i64 x] w' →
 bsp (decide (x < (↑s.size : Int)))
 ((0 ≤ x ∧ x < (↑s.size : Int)) ∧
 bsp (!permB (at8 s x.toNat))
 (R (Ending.returned (Value.tuple #[Value.int IntKind.i64 x, Value.int IntKind.i64 6])) w')
 (I [Value.int IntKind.i64 (IntKind.i64.wrap (x + 1))] w' ∧
 m [Value.int IntKind.i64 (IntKind.i64.wrap (x + 1))] w' < m [Value.int IntKind.i64 x] w'))
 (∃ (I : List Value → World → Prop),
 ∃ (m : List Value → World → Nat),
 I [Value.int IntKind.i64 0] w' ∧
 ∀ (x : Int) (w' : World),
 I [Value.int IntKind.i64 x] w' →
 bsp (decide (x < (↑s.size : Int)))
 ((0 ≤ x ∧ x < (↑s.size : Int)) ∧
 gimp (!(x == 0 && !lowerB (at8 s x.toNat)) && (decide (x > 0) && at8 s x.toNat == 46))
 (0 ≤ IntKind.i64.wrap (x - 1) ∧ IntKind.i64.wrap (x - 1) < (↑s.size : Int)) ∧
 bsp
 (x == 0 && !lowerB (at8 s x.toNat) ||
 decide (x > 0) && at8 s x.toNat == 46 && at8 s (IntKind.i64.wrap (x - 1)).toNat == 46 ||
 x == IntKind.i64.wrap ((↑s.size : Int) - 1) && (at8 s x.toNat == 45 || at8 s x.toNat == 46))
 (R (Ending.returned (Value.tuple #[Value.int IntKind.i64 x, Value.int IntKind.i64 12])) w')
 (I [Value.int IntKind.i64 (IntKind.i64.wrap (x + 1))] w' ∧
 m [Value.int IntKind.i64 (IntKind.i64.wrap (x + 1))] w' < m [Value.int IntKind.i64 x] w'))
 (R (Ending.returned (Value.tuple #[Value.int IntKind.i64 0, Value.int IntKind.i64 0])) w'))))
theorem vc_site (s : ByteArray) (w : World) (R : Ending → World → Prop) (h : VC_site s w R) : Calls Tryz.prog 32 ([Value.string
    s] : List Value).toArray w R := by
  have e : execR { P := Tryz.prog, loops := [(6, [(17, Ck.int IntKind.i64)]), (12, [(29, Ck.int IntKind.i64)])], pur := pur1, tails := [], joins := [], boxes := [] } Tryz.f32.results.toList R (Tryz.f32.body.getD .skip) (initF [Value.string
    s] (Tryz.f32.ntmps - ([Value.string s] : List Value).length)) w = VC_site s w R := by kernel_rfl
  have hb : Tryz.f32.body = some (Tryz.f32.body.getD .skip) := by kernel_rfl
  exact calls_of_exec' (P := Tryz.prog) (fn := Tryz.f32) (c := Tryz.f32.body.getD .skip) (args := [Value.string
    s]) (w := w) (R := R) pur1_ok Tryz.func32 hb e h

def VC_isDist (s : ByteArray) (w : World) (R : Ending → World → Prop) : Prop :=
 bsp (s.toList == [] || decide ((↑s.size : Int) > 20)) (R (Ending.returned (Value.bool false)) w)
 (∃ (I : List Value → World → Prop),
 ∃ (m : List Value → World → Nat),
 I [Value.int IntKind.i64 0] w ∧
 ∀ (x : Int) (w' : World),
 I [Value.int IntKind.i64 x] w' →
 bsp (decide (x < (↑s.size : Int)))
 ((0 ≤ x ∧ x < (↑s.size : Int)) ∧
 bsp (!lowerB (at8 s x.toNat) && !digitB (at8 s x.toNat) && at8 s x.toNat != 45)
 (R (Ending.returned (Value.bool false)) w')
 (I [Value.int IntKind.i64 (IntKind.i64.wrap (x + 1))] w' ∧
 m [Value.int IntKind.i64 (IntKind.i64.wrap (x + 1))] w' < m [Value.int IntKind.i64 x] w'))
 (R (Ending.returned (Value.bool true)) w'))
theorem vc_isDist (s : ByteArray) (w : World) (R : Ending → World → Prop) (h : VC_isDist s w R) : Calls Tryz.prog 33 ([Value.string
    s] : List Value).toArray w R := by
  have e : execR { P := Tryz.prog, loops := [(4, [(14, Ck.int IntKind.i64)])], pur := pur1, tails := [], joins := [], boxes := [] } Tryz.f33.results.toList R (Tryz.f33.body.getD .skip) (initF [Value.string
    s] (Tryz.f33.ntmps - ([Value.string s] : List Value).length)) w = VC_isDist s w R := by kernel_rfl
  have hb : Tryz.f33.body = some (Tryz.f33.body.getD .skip) := by kernel_rfl
  exact calls_of_exec' (P := Tryz.prog) (fn := Tryz.f33) (c := Tryz.f33.body.getD .skip) (args := [Value.string
    s]) (w := w) (R := R) pur1_ok Tryz.func33 hb e h

def VC_items (s : ByteArray) (w : World) (R : Ending → World → Prop) : Prop :=
 ∃ (I : List Value → World → Prop),
 ∃ (m : List Value → World → Nat),
 I [Value.int IntKind.i64 0, Value.string (ByteArray.mk #[])] w ∧
 ∀ (x : Int) (x_1 : ByteArray) (w' : World),
 I [Value.int IntKind.i64 x, Value.string x_1] w' →
 bsp (decide (x < (↑s.size : Int)))
 ((0 ≤ x ∧ x < (↑s.size : Int)) ∧
 gimp ((lowerB (at8 s x.toNat) || digitB (at8 s x.toNat)) && decide (IntKind.i64.wrap (x + 2) < (↑s.size : Int)))
 (0 ≤ IntKind.i64.wrap (x + 1) ∧ IntKind.i64.wrap (x + 1) < (↑s.size : Int)) ∧
 bsp
 ((lowerB (at8 s x.toNat) || digitB (at8 s x.toNat)) && decide (IntKind.i64.wrap (x + 2) < (↑s.size : Int)) &&
 at8 s (IntKind.i64.wrap (x + 1)).toNat == 45)
 ((0 ≤ IntKind.i64.wrap (x + 2) ∧ IntKind.i64.wrap (x + 2) < (↑s.size : Int)) ∧
 bsp
 (decide (at8 s (IntKind.i64.wrap (x + 2)).toNat < at8 s x.toNat) ||
 !lowerB (at8 s x.toNat) == lowerB (at8 s (IntKind.i64.wrap (x + 2)).toNat) ||
 !digitB (at8 s x.toNat) == digitB (at8 s (IntKind.i64.wrap (x + 2)).toNat))
 (R (Ending.returned (Value.tuple #[Value.string x_1, Value.int IntKind.i64 x])) w')
 (∃ (I_1 : List Value → World → Prop),
 ∃ (m_1 : List Value → World → Nat),
 I_1 [Value.int IntKind.u8 (at8 s x.toNat), Value.string x_1] w' ∧
 ∀ (x_2 : Int) (x_3 : ByteArray) (w'_1 : World),
 I_1 [Value.int IntKind.u8 x_2, Value.string x_3] w'_1 →
 bsp (decide (x_2 ≤ at8 s (IntKind.i64.wrap (x + 2)).toNat))
 (∀ (n : Nat) (w1 : World),
 NewB w'_1 (Obj.cells #[Value.int IntKind.u8 x_2] 5) n w1 →
 ∃ (s : ByteArray),
 (s.size = 1 ∧ BytesP w1 (some (Addr.mk n 0 none)) s) ∧
 (9223372036854775807 - (↑(x_3.size + s.size) : Int)).NonNeg ∧
 I_1 [Value.int IntKind.u8 (IntKind.u8.wrap (x_2 + 1)), Value.string (x_3 ++ s)] w1 ∧
 m_1 [Value.int IntKind.u8 (IntKind.u8.wrap (x_2 + 1)), Value.string (x_3 ++ s)] w1 <
 m_1 [Value.int IntKind.u8 x_2, Value.string x_3] w'_1)
 (I [Value.int IntKind.i64 (IntKind.i64.wrap (x + 3)), Value.string x_3] w'_1 ∧
 m [Value.int IntKind.i64 (IntKind.i64.wrap (x + 3)), Value.string x_3] w'_1 <
 m [Value.int IntKind.i64 x, Value.string x_1] w')))
 (bsp
 (lowerB (at8 s x.toNat) || digitB (at8 s x.toNat) || at8 s x.toNat == 43 || at8 s x.toNat == 95 ||
 at8 s x.toNat == 46 ||
 at8 s x.toNat == 45 && x == 0)
 (∀ (n : Nat) (w1 : World),
 NewB w' (Obj.cells #[Value.int IntKind.u8 (at8 s x.toNat)] 5) n w1 →
 ∃ (s : ByteArray),
 (s.size = 1 ∧ BytesP w1 (some (Addr.mk n 0 none)) s) ∧
 (9223372036854775807 - (↑(x_1.size + s.size) : Int)).NonNeg ∧
 I [Value.int IntKind.i64 (IntKind.i64.wrap (x + 1)), Value.string (x_1 ++ s)] w1 ∧
 m [Value.int IntKind.i64 (IntKind.i64.wrap (x + 1)), Value.string (x_1 ++ s)] w1 <
 m [Value.int IntKind.i64 x, Value.string x_1] w')
 (R (Ending.returned (Value.tuple #[Value.string x_1, Value.int IntKind.i64 x])) w')))
 (R (Ending.returned (Value.tuple #[Value.string x_1, Value.int IntKind.i64 x])) w')
theorem vc_items (s : ByteArray) (w : World) (R : Ending → World → Prop) (h : VC_items s w R) : Calls Tryz.prog 76 ([Value.string
    s] : List Value).toArray w R := by
  have e : execR { P := Tryz.prog, loops := [(1, [(3, Ck.int IntKind.i64), (2, Ck.str)]), (10, [(7, Ck.int IntKind.u8), (2, Ck.str)])], pur := pur1, tails := [], joins := [], boxes := [] } Tryz.f76.results.toList R (Tryz.f76.body.getD .skip) (initF [Value.string
    s] (Tryz.f76.ntmps - ([Value.string s] : List Value).length)) w = VC_items s w R := by kernel_rfl
  have hb : Tryz.f76.body = some (Tryz.f76.body.getD .skip) := by kernel_rfl
  exact calls_of_exec' (P := Tryz.prog) (fn := Tryz.f76) (c := Tryz.f76.body.getD .skip) (args := [Value.string
    s]) (w := w) (R := R) pur1_ok Tryz.func76 hb e h

def VC_parseClass (s : ByteArray) (w : World) (R : Ending → World → Prop) : Prop :=
 bsp (Lib.hasPrefix s.data.toList [91, 94])
 (((0 : Int) ≤ 2 ∧ 2 ≤ (↑s.size : Int)) ∧
 CallsS Tryz.prog 76 #[Value.string (s.extract 2 s.size)] w fun (e : Ending) (w' : World) =>
 ∃ (x : ByteArray),
 ∃ (x_1 : Int),
 e = Ending.returned (Value.tuple #[Value.string x, Value.int IntKind.i64 x_1]) ∧
 gimp (!(x_1 == 0 || IntKind.i64.wrap (2 + x_1) == (↑s.size : Int)))
 (0 ≤ IntKind.i64.wrap (2 + x_1) ∧ IntKind.i64.wrap (2 + x_1) < (↑s.size : Int)) ∧
 bsp (x_1 == 0 || IntKind.i64.wrap (2 + x_1) == (↑s.size : Int) || at8 s (IntKind.i64.wrap (2 + x_1)).toNat != 93)
 (R (Ending.returned (Value.tuple #[Value.string (ByteArray.mk #[]), Value.int IntKind.i64 0])) w')
 (∀ (n : Nat) (w1 : World),
 NewB w'
 (Obj.cells
 #[Value.int IntKind.u8 43, Value.int IntKind.u8 45, Value.int IntKind.u8 46, Value.int IntKind.u8 48,
 Value.int IntKind.u8 49, Value.int IntKind.u8 50, Value.int IntKind.u8 51, Value.int IntKind.u8 52,
 Value.int IntKind.u8 53, Value.int IntKind.u8 54, Value.int IntKind.u8 55, Value.int IntKind.u8 56,
 Value.int IntKind.u8 57, Value.int IntKind.u8 95, Value.int IntKind.u8 97, Value.int IntKind.u8 98,
 Value.int IntKind.u8 99, Value.int IntKind.u8 100, Value.int IntKind.u8 101, Value.int IntKind.u8 102,
 Value.int IntKind.u8 103, Value.int IntKind.u8 104, Value.int IntKind.u8 105, Value.int IntKind.u8 106,
 Value.int IntKind.u8 107, Value.int IntKind.u8 108, Value.int IntKind.u8 109, Value.int IntKind.u8 110,
 Value.int IntKind.u8 111, Value.int IntKind.u8 112, Value.int IntKind.u8 113, Value.int IntKind.u8 114,
 Value.int IntKind.u8 115, Value.int IntKind.u8 116, Value.int IntKind.u8 117, Value.int IntKind.u8 118,
 Value.int IntKind.u8 119, Value.int IntKind.u8 120, Value.int IntKind.u8 121, Value.int IntKind.u8 122]
 5)
 n w1 →
 ∀ (w1_1 : World),
 MarkB w1 n w1_1 →
 ∃ (I : List Value → World → Prop),
 ∃ (m : List Value → World → Nat),
 I [Value.int IntKind.i64 0, Value.slice none 0 0] w1_1 ∧
 ∀ (x_2 : Int) (p : Option Addr) (n_1 c : Nat) (w' : World),
 I [Value.int IntKind.i64 x_2, Value.slice p n_1 c] w' →
 bsp (decide (x_2 < (↑40 : Int)))
 ((0 ≤ x_2 ∧ x_2 < (↑40 : Int)) ∧
 ∃ (x_3 : Int),
 w'.cell? (Addr.mk n (0 + x_2.toNat) none) = some (Value.int IntKind.u8 x_3) ∧
 bsp
 (!decide (Lib.indexByte x.data.toList x_3.toNat.toUInt8 ≥ 0) ==
 Lib.hasPrefix s.data.toList [91, 94])
 (∀ (n : Nat) (w1 : World),
 NewB w' (Obj.cells #[Value.int IntKind.u8 x_3] 5) n w1 →
 ∃ (base : Nat),
 ∃ (xs : List Value),
 ∃ (news : List Value),
 w1.ownsRow base 5 1 (Value.slice p n_1 c) n_1 xs ∧
 news.length = 1 ∧
 SrcP w1 (some (Addr.mk n 0 none)) news ∧
 n_1 + 1 ≤ 9223372036854775807 ∧
 (n_1 + 1) * 1 ≤ 140737488355328 ∧
 base ≤ w1.heap.size ∧
 ∀ (p' : Option Addr) (c' : Nat) (w'_1 : World),
 w'_1.ownsRow base 5 1 (Value.slice p' (n_1 + 1) c') (n_1 + 1) (xs ++ news) →
 w1.grownBy w'_1 (Value.slice p n_1 c).ownBlock →
 I [Value.int IntKind.i64 (IntKind.i64.wrap (x_2 + 1)), Value.slice p' (n_1 + 1) c']
 w'_1 ∧
 m [Value.int IntKind.i64 (IntKind.i64.wrap (x_2 + 1)), Value.slice p' (n_1 + 1) c']
 w'_1 <
 m [Value.int IntKind.i64 x_2, Value.slice p n_1 c] w')
 (I [Value.int IntKind.i64 (IntKind.i64.wrap (x_2 + 1)), Value.slice p n_1 c] w' ∧
 m [Value.int IntKind.i64 (IntKind.i64.wrap (x_2 + 1)), Value.slice p n_1 c] w' <
 m [Value.int IntKind.i64 x_2, Value.slice p n_1 c] w'))
 (∃ (s : ByteArray),
 (s.size = n_1 ∧ BytesP w' p s) ∧
 R
 (Ending.returned
 (Value.tuple
 #[Value.string s, Value.int IntKind.i64 (IntKind.i64.wrap (IntKind.i64.wrap (2 + x_1) + 1))]))
 w')))
 (((0 : Int) ≤ 1 ∧ 1 ≤ (↑s.size : Int)) ∧
 CallsS Tryz.prog 76 #[Value.string (s.extract 1 s.size)] w fun (e : Ending) (w' : World) =>
 ∃ (x : ByteArray),
 ∃ (x_1 : Int),
 e = Ending.returned (Value.tuple #[Value.string x, Value.int IntKind.i64 x_1]) ∧
 gimp (!(x_1 == 0 || IntKind.i64.wrap (1 + x_1) == (↑s.size : Int)))
 (0 ≤ IntKind.i64.wrap (1 + x_1) ∧ IntKind.i64.wrap (1 + x_1) < (↑s.size : Int)) ∧
 bsp (x_1 == 0 || IntKind.i64.wrap (1 + x_1) == (↑s.size : Int) || at8 s (IntKind.i64.wrap (1 + x_1)).toNat != 93)
 (R (Ending.returned (Value.tuple #[Value.string (ByteArray.mk #[]), Value.int IntKind.i64 0])) w')
 (∀ (n : Nat) (w1 : World),
 NewB w'
 (Obj.cells
 #[Value.int IntKind.u8 43, Value.int IntKind.u8 45, Value.int IntKind.u8 46, Value.int IntKind.u8 48,
 Value.int IntKind.u8 49, Value.int IntKind.u8 50, Value.int IntKind.u8 51, Value.int IntKind.u8 52,
 Value.int IntKind.u8 53, Value.int IntKind.u8 54, Value.int IntKind.u8 55, Value.int IntKind.u8 56,
 Value.int IntKind.u8 57, Value.int IntKind.u8 95, Value.int IntKind.u8 97, Value.int IntKind.u8 98,
 Value.int IntKind.u8 99, Value.int IntKind.u8 100, Value.int IntKind.u8 101, Value.int IntKind.u8 102,
 Value.int IntKind.u8 103, Value.int IntKind.u8 104, Value.int IntKind.u8 105, Value.int IntKind.u8 106,
 Value.int IntKind.u8 107, Value.int IntKind.u8 108, Value.int IntKind.u8 109, Value.int IntKind.u8 110,
 Value.int IntKind.u8 111, Value.int IntKind.u8 112, Value.int IntKind.u8 113, Value.int IntKind.u8 114,
 Value.int IntKind.u8 115, Value.int IntKind.u8 116, Value.int IntKind.u8 117, Value.int IntKind.u8 118,
 Value.int IntKind.u8 119, Value.int IntKind.u8 120, Value.int IntKind.u8 121, Value.int IntKind.u8 122]
 5)
 n w1 →
 ∀ (w1_1 : World),
 MarkB w1 n w1_1 →
 ∃ (I : List Value → World → Prop),
 ∃ (m : List Value → World → Nat),
 I [Value.int IntKind.i64 0, Value.slice none 0 0] w1_1 ∧
 ∀ (x_2 : Int) (p : Option Addr) (n_1 c : Nat) (w' : World),
 I [Value.int IntKind.i64 x_2, Value.slice p n_1 c] w' →
 bsp (decide (x_2 < (↑40 : Int)))
 ((0 ≤ x_2 ∧ x_2 < (↑40 : Int)) ∧
 ∃ (x_3 : Int),
 w'.cell? (Addr.mk n (0 + x_2.toNat) none) = some (Value.int IntKind.u8 x_3) ∧
 bsp
 (!decide (Lib.indexByte x.data.toList x_3.toNat.toUInt8 ≥ 0) ==
 Lib.hasPrefix s.data.toList [91, 94])
 (∀ (n : Nat) (w1 : World),
 NewB w' (Obj.cells #[Value.int IntKind.u8 x_3] 5) n w1 →
 ∃ (base : Nat),
 ∃ (xs : List Value),
 ∃ (news : List Value),
 w1.ownsRow base 5 1 (Value.slice p n_1 c) n_1 xs ∧
 news.length = 1 ∧
 SrcP w1 (some (Addr.mk n 0 none)) news ∧
 n_1 + 1 ≤ 9223372036854775807 ∧
 (n_1 + 1) * 1 ≤ 140737488355328 ∧
 base ≤ w1.heap.size ∧
 ∀ (p' : Option Addr) (c' : Nat) (w'_1 : World),
 w'_1.ownsRow base 5 1 (Value.slice p' (n_1 + 1) c') (n_1 + 1) (xs ++ news) →
 w1.grownBy w'_1 (Value.slice p n_1 c).ownBlock →
 I [Value.int IntKind.i64 (IntKind.i64.wrap (x_2 + 1)), Value.slice p' (n_1 + 1) c']
 w'_1 ∧
 m [Value.int IntKind.i64 (IntKind.i64.wrap (x_2 + 1)), Value.slice p' (n_1 + 1) c']
 w'_1 <
 m [Value.int IntKind.i64 x_2, Value.slice p n_1 c] w')
 (I [Value.int IntKind.i64 (IntKind.i64.wrap (x_2 + 1)), Value.slice p n_1 c] w' ∧
 m [Value.int IntKind.i64 (IntKind.i64.wrap (x_2 + 1)), Value.slice p n_1 c] w' <
 m [Value.int IntKind.i64 x_2, Value.slice p n_1 c] w'))
 (∃ (s : ByteArray),
 (s.size = n_1 ∧ BytesP w' p s) ∧
 R
 (Ending.returned
 (Value.tuple
 #[Value.string s, Value.int IntKind.i64 (IntKind.i64.wrap (IntKind.i64.wrap (1 + x_1) + 1))]))
 w')))
theorem vc_parseClass (s : ByteArray) (w : World) (R : Ending → World → Prop) (h : VC_parseClass s w R) : Calls Tryz.prog 56 ([Value.string
    s] : List Value).toArray w R := by
  have e : execR { P := Tryz.prog, loops := [(11, [(42, Ck.int IntKind.i64), (9, Ck.slice)])], pur := pur1, tails := [], joins := [], boxes := [] } Tryz.f56.results.toList R (Tryz.f56.body.getD .skip) (initF [Value.string
    s] (Tryz.f56.ntmps - ([Value.string s] : List Value).length)) w = VC_parseClass s w R := by kernel_rfl
  have hb : Tryz.f56.body = some (Tryz.f56.body.getD .skip) := by kernel_rfl
  exact calls_of_exec' (P := Tryz.prog) (fn := Tryz.f56) (c := Tryz.f56.body.getD .skip) (args := [Value.string
    s]) (w := w) (R := R) pur1_ok Tryz.func56 hb e h

def VC_spread (b : Nat) (o : Nat) (p : Option Addr) (n : Nat) (c : Nat) (w : World) (R : Ending → World → Prop) : Prop :=
 ∃ (p_1 : Option Addr),
 ∃ (n_1 : Nat),
 ∃ (c : Nat),
 w.cell? (Addr.mk b (o + 1) none) = some (Value.slice p_1 n_1 c) ∧
 ∃ (I : List Value → World → Prop),
 ∃ (m : List Value → World → Nat),
 I [Value.int IntKind.i64 0] w ∧
 ∀ (x : Int) (w' : World),
 I [Value.int IntKind.i64 x] w' →
 bsp (decide (x < (↑n_1 : Int)))
 (nn true p_1 fun (b o : Nat) =>
 (0 ≤ x ∧ x < (↑n_1 : Int)) ∧
 ∃ (x_1 : Value),
 w'.cell? (Addr.mk b (o + x.toNat) none) = some x_1 ∧
 nn true p fun (b o : Nat) =>
 (0 ≤ x ∧ x < (↑n : Int)) ∧
 ∃ (x_2 : Bool),
 w'.cell? (Addr.mk b (o + x.toNat) none) = some (Value.bool x_2) ∧
 bsp x_2
 (CallsS Tryz.prog 94 #[x_1] w' fun (e : Ending) (w'_1 : World) =>
 ∃ (x_3 : Bool),
 e = Ending.returned (Value.bool x_3) ∧
 bsp (true && x_3)
 (nn true p fun (b o : Nat) =>
 (0 ≤ IntKind.i64.wrap (x + 1) ∧ IntKind.i64.wrap (x + 1) < (↑n : Int)) ∧
 ((∃ (u : Value), w'_1.cell? (Addr.mk b (o + (IntKind.i64.wrap (x + 1)).toNat) none) = some u) ∧
 w'_1.frozen? (Addr.mk b (o + (IntKind.i64.wrap (x + 1)).toNat) none) = false) ∧
 ∀ (w1 : World),
 PutB w'_1 b (o + (IntKind.i64.wrap (x + 1)).toNat) [Value.bool true] w1 →
 I [Value.int IntKind.i64 (IntKind.i64.wrap (x + 1))] w1 ∧
 m [Value.int IntKind.i64 (IntKind.i64.wrap (x + 1))] w1 < m [Value.int IntKind.i64 x] w')
 (I [Value.int IntKind.i64 (IntKind.i64.wrap (x + 1))] w'_1 ∧
 m [Value.int IntKind.i64 (IntKind.i64.wrap (x + 1))] w'_1 < m [Value.int IntKind.i64 x] w'))
 (I [Value.int IntKind.i64 (IntKind.i64.wrap (x + 1))] w' ∧
 m [Value.int IntKind.i64 (IntKind.i64.wrap (x + 1))] w' < m [Value.int IntKind.i64 x] w'))
 (R (Ending.returned (Value.tuple #[])) w')
theorem vc_spread (b : Nat) (o : Nat) (p : Option Addr) (n : Nat) (c : Nat) (w : World) (R : Ending → World → Prop) (h : VC_spread b o p n c w R) : Calls Tryz.prog 92 ([Value.pointer
    (some { block := b, off := o }),
  Value.slice p n c] : List Value).toArray w R := by
  have e : execR { P := Tryz.prog, loops := [(1, [(11, Ck.int IntKind.i64)])], pur := pur1, tails := [], joins := [], boxes := [] } Tryz.f92.results.toList R (Tryz.f92.body.getD .skip) (initF [Value.pointer
    (some { block := b, off := o }),
  Value.slice p n
    c] (Tryz.f92.ntmps - ([Value.pointer (some { block := b, off := o }),
  Value.slice p n c] : List Value).length)) w = VC_spread b o p n c w R := by kernel_rfl
  have hb : Tryz.f92.body = some (Tryz.f92.body.getD .skip) := by kernel_rfl
  exact calls_of_exec' (P := Tryz.prog) (fn := Tryz.f92) (c := Tryz.f92.body.getD .skip) (args := [Value.pointer
    (some { block := b, off := o }),
  Value.slice p n c]) (w := w) (R := R) pur1_ok Tryz.func92 hb e h

def VC_len (b : Nat) (o : Nat) (w : World) (R : Ending → World → Prop) : Prop :=
 ∃ (p : Option Addr),
 ∃ (n : Nat),
 ∃ (c : Nat),
 w.cell? (Addr.mk b (o + 1) none) = some (Value.slice p n c) ∧
 R (Ending.returned (Value.int IntKind.i64 (↑n : Int))) w
theorem vc_len (b : Nat) (o : Nat) (w : World) (R : Ending → World → Prop) (h : VC_len b o w R) : Calls Tryz.prog 78 ([Value.pointer
    (some { block := b, off := o })] : List Value).toArray w R := by
  have e : execR { P := Tryz.prog, loops := [], pur := pur1, tails := [], joins := [], boxes := [] } Tryz.f78.results.toList R (Tryz.f78.body.getD .skip) (initF [Value.pointer
    (some
      { block := b,
        off :=
          o })] (Tryz.f78.ntmps - ([Value.pointer
    (some { block := b, off := o })] : List Value).length)) w = VC_len b o w R := by kernel_rfl
  have hb : Tryz.f78.body = some (Tryz.f78.body.getD .skip) := by kernel_rfl
  exact calls_of_exec' (P := Tryz.prog) (fn := Tryz.f78) (c := Tryz.f78.body.getD .skip) (args := [Value.pointer
    (some { block := b, off := o })]) (w := w) (R := R) pur1_ok Tryz.func78 hb e h

end Go.Proofs.YtcpjajjocmpkjaaGreatDoor

/- Plain functions on texts (no program in sight): the tests of characters, the errors of a site's name, searches for a first index. No condition. -/
namespace Go.Proofs.YtcpjajjocmpkjaaGreatDoor

theorem at8_lt (s : ByteArray) (k : Nat) (h : k < s.size) : at8 s k = (s[k].toNat : Int) := by simp [at8, h]
theorem at8_bd (s : ByteArray) (k : Nat) : 0 ≤ at8 s k ∧ at8 s k ≤ 255 := by
  unfold at8
  split
  · have := s[k].toNat_lt; omega
  · omega

theorem find_some (p : Nat → Bool) (n k : Nat) (hk : k < n) (h : ∀ j, j < k → p j = false) (hp : p k = true) : (List.range n).find? p = some k := by
  rw [List.find?_range_eq_some]
  exact ⟨hp, List.mem_range.2 hk, fun j hj => by simp [h j hj]⟩
theorem find_none (p : Nat → Bool) (n : Nat) (h : ∀ j, j < n → p j = false) : (List.range n).find? p = none := by
  rw [List.find?_range_eq_none]
  exact fun j hj => by simp [h j hj]

/-- A character of a site's name is at a place where it can't stand. -/
def misB (s : ByteArray) (i : Nat) : Bool :=
  (i == 0 && !lowerB (at8 s i)) || (decide (0 < i) && at8 s i == 46 && at8 s (i - 1) == 46) || (i + 1 == s.size && (at8 s i == 45 || at8 s i == 46))
/-- The offset of the first error of a site's name and its kind. -/
def siteS (s : ByteArray) : Int × Int :=
  if s.size = 0 then (0, 4) else if 30 < s.size then (30, 5) else
  match (List.range s.size).find? (fun i => !permB (at8 s i)) with
  | some i => ((i : Int), 6)
  | none => match (List.range s.size).find? (misB s) with
    | some i => ((i : Int), 12)
    | none => (0, 0)

theorem siteS_byte (s : ByteArray) (k : Nat) (h0 : ¬ s.size = 0) (h1 : ¬ 30 < s.size) (hk : k < s.size) (h : ∀ j, j < k → permB (at8 s j) = true) (hp : permB (at8 s k) = false) : siteS s = ((k : Int), 6) := by
  have := find_some (fun i => !permB (at8 s i)) s.size k hk (fun j hj => by simp [h j hj]) (by simp [hp])
  simp [siteS, h0, h1, this]
theorem siteS_name (s : ByteArray) (k : Nat) (h0 : ¬ s.size = 0) (h1 : ¬ 30 < s.size) (h : ∀ j, j < s.size → permB (at8 s j) = true) (hk : k < s.size) (hm : ∀ j, j < k → misB s j = false) (hp : misB s k = true) : siteS s = ((k : Int), 12) := by
  have a := find_none (fun i => !permB (at8 s i)) s.size (fun j hj => by simp [h j hj])
  have b := find_some (misB s) s.size k hk hm hp
  simp [siteS, h0, h1, a, b]
theorem siteS_ok (s : ByteArray) (h0 : ¬ s.size = 0) (h1 : ¬ 30 < s.size) (h : ∀ j, j < s.size → permB (at8 s j) = true) (hm : ∀ j, j < s.size → misB s j = false) : siteS s = (0, 0) := by
  have a := find_none (fun i => !permB (at8 s i)) s.size (fun j hj => by simp [h j hj])
  have b := find_none (misB s) s.size hm
  simp [siteS, h0, h1, a, b]

/-- A word is a distribution. -/
def distB (s : ByteArray) : Bool := decide (0 < s.size) && decide (s.size ≤ 20) && (List.range s.size).all (fun i => lowerB (at8 s i) || digitB (at8 s i) || at8 s i == 45)

theorem toList_nil (s : ByteArray) : (s.toList == []) = decide (s.size = 0) := by
  have h : s.toList.length = s.size := by rw [ByteArray.toList_eq]; exact s.data.length_toList
  cases hs : s.toList with
  | nil => rw [hs] at h; have h : s.size = 0 := h.symm; rw [h]; rfl
  | cons a r =>
    rw [hs] at h
    have h : s.size = r.length + 1 := h.symm
    have : ¬ s.size = 0 := by omega
    rw [decide_eq_false this]
    rfl
/-- A loop that counts a slot from 0 up to n. -/
theorem count1 {w : World} {F : (List Value → World → Prop) → (List Value → World → Nat) → Int → World → Prop} (n : Nat) (hn : (n : Int) ≤ 9223372036854775807) (J : Nat → World → Prop) (h0 : J 0 w)
    (step : ∀ (I : List Value → World → Prop) (m : List Value → World → Nat) (k : Nat) (w' : World), k ≤ n → J k w' →
      (k < n → ∀ w'', J (k + 1) w'' → I [.int .i64 (IntKind.i64.wrap (k + 1))] w'' ∧ m [.int .i64 (IntKind.i64.wrap (k + 1))] w'' < m [.int .i64 k] w') → F I m k w') :
    ∃ (I : List Value → World → Prop) (m : List Value → World → Nat), I [.int .i64 0] w ∧ ∀ (x : Int) (w' : World), I [.int .i64 x] w' → F I m x w' := by
  refine ⟨fun vs w' => ∃ k : Nat, vs = [.int .i64 k] ∧ k ≤ n ∧ J k w', fun vs _ => (match vs with | [.int _ x] => n - x.toNat | _ => 0), ⟨0, rfl, by omega, h0⟩, fun x w' ⟨k, hv, hk, hJ⟩ => ?_⟩
  have hx : x = (k : Int) := by simpa using hv
  subst hx
  refine step _ _ k w' hk hJ (fun hlt w'' hJ' => ?_)
  rw [show IntKind.i64.wrap ((k : Int) + 1) = ((k + 1 : Nat) : Int) from by rw [wr64 (by omega) (by omega)]; omega]
  exact ⟨⟨k + 1, rfl, by omega, hJ'⟩, by simp; omega⟩

end Go.Proofs.YtcpjajjocmpkjaaGreatDoor

/- The contracts of msgid.Site, feedrule.isDistribution, and of the reference's Site and word. A word's length is in the range of int. -/
namespace Go.Proofs.YtcpjajjocmpkjaaGreatDoor
open Go.RowKit

theorem site_any (s : ByteArray) (w : World) : Calls Tryz.prog 32 #[.string s] w fun e w' => e = .returned (.tuple #[.int .i64 (siteS s).1, .int .i64 (siteS s).2]) ∧ w' = w := by
  refine vc_site s w _ ?_
  unfold VC_site
  rw [toList_nil]
  refine bsp_intro (fun h0 => ?_) (fun h0 => bsp_intro (fun h1 => ?_) (fun h1 => ?_))
  · have h0 : s.size = 0 := by simpa using h0
    exact ⟨by simp [siteS, h0], rfl⟩
  · have h0 : ¬ s.size = 0 := by simpa using h0
    have h1 : (s.size : Int) > 30 := by simpa using h1
    have h1 : 30 < s.size := by omega
    exact ⟨by simp [siteS, h0, h1], rfl⟩
  have h0 : ¬ s.size = 0 := by simpa using h0
  have h1 : ¬ (s.size : Int) > 30 := by simpa using h1
  have h1 : ¬ 30 < s.size := by omega
  refine count1 s.size (by omega) (fun k w' => w' = w ∧ ∀ j, j < k → permB (at8 s j) = true) ⟨rfl, fun j hj => by omega⟩ (fun I m k w' hk ⟨hw, hJ⟩ next => ?_)
  subst hw
  refine bsp_intro (fun hlt => ⟨?_, bsp_intro (fun hp => ?_) (fun hp => ?_)⟩) (fun hge => ?_)
  · have : k < s.size := by simpa using hlt
    omega
  · have hlt : k < s.size := by simpa using hlt
    rw [siteS_byte s k h0 h1 hlt hJ (by simpa using hp)]
    exact ⟨rfl, rfl⟩
  · have hlt : k < s.size := by simpa using hlt
    refine next hlt _ ⟨rfl, fun j hj => ?_⟩
    by_cases hjk : j = k
    · subst hjk; simpa using hp
    · exact hJ j (by omega)
  · have hall : ∀ j, j < s.size → permB (at8 s j) = true := fun j hj => hJ j (by
      have : ¬ k < s.size := by simpa using hge
      omega)
    refine count1 s.size (by omega) (fun k w'' => w'' = w' ∧ ∀ j, j < k → misB s j = false) ⟨rfl, fun j hj => by omega⟩ (fun I m k w'' hk ⟨hw, hJ2⟩ next => ?_)
    subst hw
    have hmis : ∀ (hlt : k < s.size), ((k : Int) == 0 && !lowerB (at8 s (k : Int).toNat) || decide ((k : Int) > 0) && at8 s (k : Int).toNat == 46 && at8 s (IntKind.i64.wrap ((k : Int) - 1)).toNat == 46 ||
        (k : Int) == IntKind.i64.wrap ((s.size : Int) - 1) && (at8 s (k : Int).toNat == 45 || at8 s (k : Int).toNat == 46)) = misB s k := fun hlt => by
      rw [wr64 (by omega) (by omega), wr64 (by omega) (by omega)]
      have e1 : ((k : Int) == 0) = (k == 0) := by rw [Bool.eq_iff_iff]; simp
      have e2 : decide ((k : Int) > 0) = decide (0 < k) := by apply decide_eq_decide.2; omega
      have e3 : ((k : Int) == (s.size : Int) - 1) = (k + 1 == s.size) := by rw [Bool.eq_iff_iff]; simp; omega
      have e4 : ((k : Int) - 1).toNat = k - 1 := by omega
      rw [e1, e2, e3, e4]
      rfl
    refine bsp_intro (fun hlt => ⟨?_, gimp_intro (fun hg => ?_), ?_⟩) (fun hge => ?_)
    · have : k < s.size := by simpa using hlt
      omega
    · have hlt : k < s.size := by simpa using hlt
      have : (k : Int) > 0 := by
        simp only [Bool.and_eq_true, decide_eq_true_eq] at hg
        exact hg.2.1
      rw [wr64 (by omega) (by omega)]
      omega
    · have hlt : k < s.size := by simpa using hlt
      rw [hmis hlt]
      refine bsp_intro (fun hp => ?_) (fun hp => ?_)
      · rw [siteS_name s k h0 h1 hall hlt hJ2 hp]
        exact ⟨rfl, rfl⟩
      · refine next hlt _ ⟨rfl, fun j hj => ?_⟩
        by_cases hjk : j = k
        · subst hjk; exact hp
        · exact hJ2 j (by omega)
    · have hge : ¬ k < s.size := by simpa using hge
      rw [siteS_ok s h0 h1 hall (fun j hj => hJ2 j (by omega))]
      exact ⟨rfl, rfl⟩

theorem dist_step {s : ByteArray} {k : Nat} (h : (!lowerB (at8 s (k : Int).toNat) && !digitB (at8 s (k : Int).toNat) && at8 s (k : Int).toNat != 45) = false) : (lowerB (at8 s k) || digitB (at8 s k) || at8 s k == 45) = true := by
  have h : (!lowerB (at8 s k) && !digitB (at8 s k) && at8 s k != 45) = false := h
  revert h
  cases lowerB (at8 s k) <;> cases digitB (at8 s k) <;> simp
theorem dist_no {s : ByteArray} {k : Nat} (hk : k < s.size) (h : (!lowerB (at8 s (k : Int).toNat) && !digitB (at8 s (k : Int).toNat) && at8 s (k : Int).toNat != 45) = true) : distB s = false := by
  have h : (!lowerB (at8 s k) && !digitB (at8 s k) && at8 s k != 45) = true := h
  unfold distB
  rw [Bool.and_eq_false_iff]
  right
  rw [List.all_eq_false]
  refine ⟨k, List.mem_range.2 hk, ?_⟩
  revert h
  cases lowerB (at8 s k) <;> cases digitB (at8 s k) <;> simp
theorem dist_all {s : ByteArray} (h0 : 0 < s.size) (h1 : s.size ≤ 20) (h : ∀ j, j < s.size → (lowerB (at8 s j) || digitB (at8 s j) || at8 s j == 45) = true) : distB s = true := by
  unfold distB
  simp only [Bool.and_eq_true, decide_eq_true_eq]
  exact ⟨⟨h0, h1⟩, List.all_eq_true.2 fun j hj => h j (List.mem_range.1 hj)⟩
theorem isDist_any (s : ByteArray) (w : World) : Calls Tryz.prog 33 #[.string s] w fun e w' => e = .returned (.bool (distB s)) ∧ w' = w := by
  refine vc_isDist s w _ ?_
  unfold VC_isDist
  rw [toList_nil]
  refine bsp_intro (fun h0 => ?_) (fun h0 => ?_)
  · have h0 : s.size = 0 ∨ (s.size : Int) > 20 := by simpa using h0
    have : distB s = false := by
      unfold distB
      rw [Bool.and_eq_false_iff, Bool.and_eq_false_iff]
      left
      rcases h0 with h0 | h0
      · left; simp [h0]
      · right; simp; omega
    exact ⟨by rw [this], rfl⟩
  have h0 : ¬ (s.size = 0 ∨ (s.size : Int) > 20) := by simpa using h0
  refine count1 s.size (by omega) (fun k w' => w' = w ∧ ∀ j, j < k → (lowerB (at8 s j) || digitB (at8 s j) || at8 s j == 45) = true) ⟨rfl, fun j hj => by omega⟩ (fun I m k w' hk ⟨hw, hJ⟩ next => ?_)
  subst hw
  refine bsp_intro (fun hlt => ⟨?_, bsp_intro (fun hp => ?_) (fun hp => ?_)⟩) (fun hge => ?_)
  · have : k < s.size := by simpa using hlt
    omega
  · have hlt : k < s.size := by simpa using hlt
    exact ⟨by rw [dist_no hlt hp], rfl⟩
  · have hlt : k < s.size := by simpa using hlt
    refine next hlt _ ⟨rfl, fun j hj => ?_⟩
    by_cases hjk : j = k
    · subst hjk; exact dist_step hp
    · exact hJ j (by omega)
  · have hge : ¬ k < s.size := by simpa using hge
    exact ⟨by rw [dist_all (by omega) (by omega) (fun j hj => hJ j (by omega))], rfl⟩

theorem bsp_congr {b c : Bool} {X Y : Prop} (h : b = c) (k : bsp c X Y) : bsp b X Y := h ▸ k
theorem refSite_any (s : ByteArray) (w : World) : Calls Tryz.prog 19 #[.string s] w fun e w' => e = .returned (.tuple #[.int .i64 (siteS s).1, .int .i64 (siteS s).2]) ∧ w' = w := by
  refine vc_ref11Site s w _ ?_
  unfold VC_ref11Site
  rw [toList_nil]
  refine bsp_intro (fun h0 => ?_) (fun h0 => bsp_intro (fun h1 => ?_) (fun h1 => ?_))
  · have h0 : s.size = 0 := by simpa using h0
    exact ⟨by simp [siteS, h0], rfl⟩
  · have h0 : ¬ s.size = 0 := by simpa using h0
    have h1 : (s.size : Int) > 30 := by simpa using h1
    have h1 : 30 < s.size := by omega
    exact ⟨by simp [siteS, h0, h1], rfl⟩
  have h0 : ¬ s.size = 0 := by simpa using h0
  have h1 : ¬ (s.size : Int) > 30 := by simpa using h1
  have h1 : ¬ 30 < s.size := by omega
  refine count1 s.size (by omega) (fun k w' => w' = w ∧ ∀ j, j < k → permB (at8 s j) = true) ⟨rfl, fun j hj => by omega⟩ (fun I m k w' hk ⟨hw, hJ⟩ next => ?_)
  subst hw
  refine bsp_intro (fun hlt => ⟨?_, bsp_intro (fun hp => ?_) (fun hp => ?_)⟩) (fun hge => ?_)
  · have : k < s.size := by simpa using hlt
    omega
  · have hlt : k < s.size := by simpa using hlt
    rw [siteS_byte s k h0 h1 hlt hJ (by have hp : (!permB (at8 s k)) = true := hp; simpa using hp)]
    exact ⟨rfl, rfl⟩
  · have hlt : k < s.size := by simpa using hlt
    refine next hlt _ ⟨rfl, fun j hj => ?_⟩
    by_cases hjk : j = k
    · subst hjk; have hp : (!permB (at8 s j)) = false := hp; simpa using hp
    · exact hJ j (by omega)
  · have hall : ∀ j, j < s.size → permB (at8 s j) = true := fun j hj => hJ j (by
      have : ¬ k < s.size := by simpa using hge
      omega)
    refine count1 s.size (by omega) (fun k w'' => w'' = w' ∧ ∀ j, j < k → misB s j = false) ⟨rfl, fun j hj => by omega⟩ (fun I m k w'' hk ⟨hw, hJ2⟩ next => ?_)
    subst hw
    have hmis : ∀ (hlt : k < s.size), ((k : Int) == 0 && !lowerB (at8 s (k : Int).toNat) || decide ((k : Int) > 0) && at8 s (k : Int).toNat == 46 && at8 s (IntKind.i64.wrap ((k : Int) - 1)).toNat == 46 ||
        (k : Int) == IntKind.i64.wrap ((s.size : Int) - 1) && (at8 s (k : Int).toNat == 45 || at8 s (k : Int).toNat == 46)) = misB s k := fun hlt => by
      rw [wr64 (by omega) (by omega), wr64 (by omega) (by omega)]
      have e1 : ((k : Int) == 0) = (k == 0) := by rw [Bool.eq_iff_iff]; simp
      have e2 : decide ((k : Int) > 0) = decide (0 < k) := by apply decide_eq_decide.2; omega
      have e3 : ((k : Int) == (s.size : Int) - 1) = (k + 1 == s.size) := by rw [Bool.eq_iff_iff]; simp; omega
      have e4 : ((k : Int) - 1).toNat = k - 1 := by omega
      rw [e1, e2, e3, e4]
      rfl
    refine bsp_intro (fun hlt => ⟨?_, gimp_intro (fun hg => ?_), ?_⟩) (fun hge => ?_)
    · have : k < s.size := by simpa using hlt
      omega
    · have hlt : k < s.size := by simpa using hlt
      have : (k : Int) > 0 := by
        simp only [Bool.and_eq_true, decide_eq_true_eq] at hg
        exact hg.2.1
      rw [wr64 (by omega) (by omega)]
      omega
    · have hlt : k < s.size := by simpa using hlt
      refine bsp_congr (hmis hlt) ?_
      refine bsp_intro (fun hp => ?_) (fun hp => ?_)
      · rw [siteS_name s k h0 h1 hall hlt hJ2 hp]
        exact ⟨rfl, rfl⟩
      · refine next hlt _ ⟨rfl, fun j hj => ?_⟩
        by_cases hjk : j = k
        · subst hjk; exact hp
        · exact hJ2 j (by omega)
    · have hge : ¬ k < s.size := by simpa using hge
      rw [siteS_ok s h0 h1 hall (fun j hj => hJ2 j (by omega))]
      exact ⟨rfl, rfl⟩

theorem word_any (s : ByteArray) (hs : (s.size : Int) ≤ 9223372036854775807) (w : World) : Calls Tryz.prog 21 #[.string s] w fun e w' => e = .returned (.bool (distB s)) ∧ w' = w := by
  refine vc_word s w _ ?_
  unfold VC_word
  refine count1 s.size hs (fun k w' => w' = w ∧ ∀ j, j < k → (lowerB (at8 s j) || digitB (at8 s j) || at8 s j == 45) = true) ⟨rfl, fun j hj => by omega⟩ (fun I m k w' hk ⟨hw, hJ⟩ next => ?_)
  subst hw
  have hc : ((decide (at8 s (k : Int).toNat < 97) || decide (at8 s (k : Int).toNat > 122)) && (decide (at8 s (k : Int).toNat < 48) || decide (at8 s (k : Int).toNat > 57)) && at8 s (k : Int).toNat != 45) =
      (!lowerB (at8 s (k : Int).toNat) && !digitB (at8 s (k : Int).toNat) && at8 s (k : Int).toNat != 45) := by
    unfold lowerB digitB
    generalize at8 s (k : Int).toNat = c
    rw [Bool.not_and, Bool.not_and, ← decide_not, ← decide_not, ← decide_not, ← decide_not]
    have e1 : decide (c < 97) = decide (¬ 97 ≤ c) := by apply decide_eq_decide.2; omega
    have e2 : decide (c > 122) = decide (¬ c ≤ 122) := by apply decide_eq_decide.2; omega
    have e3 : decide (c < 48) = decide (¬ 48 ≤ c) := by apply decide_eq_decide.2; omega
    have e4 : decide (c > 57) = decide (¬ c ≤ 57) := by apply decide_eq_decide.2; omega
    rw [e1, e2, e3, e4]
  rw [hc]
  refine bsp_intro (fun hlt => ⟨?_, bsp_intro (fun hp => ?_) (fun hp => ?_)⟩) (fun hge => ?_)
  · have : k < s.size := by simpa using hlt
    omega
  · have hlt : k < s.size := by simpa using hlt
    exact ⟨by rw [dist_no hlt hp], rfl⟩
  · have hlt : k < s.size := by simpa using hlt
    refine next hlt _ ⟨rfl, fun j hj => ?_⟩
    by_cases hjk : j = k
    · subst hjk; exact dist_step hp
    · exact hJ j (by omega)
  · have hge : ¬ k < s.size := by simpa using hge
    refine ⟨?_, rfl⟩
    congr 2
    by_cases hb : 0 < s.size ∧ s.size ≤ 20
    · rw [dist_all hb.1 hb.2 (fun j hj => hJ j (by omega))]
      simp
      omega
    · have : distB s = false := by
        unfold distB
        rw [Bool.and_eq_false_iff]
        left
        simp
        omega
      rw [this]
      simp
      omega

end Go.Proofs.YtcpjajjocmpkjaaGreatDoor

/- The contract of wildmat.items, by a plain function (which bytes are listed, how long the items are). The text has at most 2^30 bytes. -/
namespace Go.Proofs.YtcpjajjocmpkjaaGreatDoor
open Go.RowKit

/-- The string of one byte. -/
def b1 (c : Int) : ByteArray := ⟨#[c.toNat.toUInt8]⟩
theorem b1_size (c : Int) : (b1 c).size = 1 := rfl
theorem byte_inj {c d : Int} (hc : 0 ≤ c ∧ c ≤ 255) (hd : 0 ≤ d ∧ d ≤ 255) : (d.toNat.toUInt8 == c.toNat.toUInt8) = decide (d = c) := by
  rw [Bool.eq_iff_iff]
  simp only [beq_iff_eq, decide_eq_true_eq]
  constructor
  · intro h
    have h1 : d.toNat.toUInt8.toNat = c.toNat.toUInt8.toNat := by rw [h]
    rw [UInt8.toNat_ofNat', UInt8.toNat_ofNat'] at h1
    omega
  · rintro rfl; rfl
theorem hasB_b1 {a : ByteArray} {c d : Int} (hc : 0 ≤ c ∧ c ≤ 255) (hd : 0 ≤ d ∧ d ≤ 255) : hasB (a ++ b1 c) d = (hasB a d || decide (d = c)) := by
  unfold hasB
  have : (a ++ b1 c).data.toList = a.data.toList ++ [c.toNat.toUInt8] := by
    rw [ByteArray.data_append]; simp [b1]
  rw [this, ← byte_inj hc hd, List.contains_append]
  congr 1
  rw [List.contains_cons]
  simp
theorem b1_bytes {w : World} {n : Nat} {c : Int} (hc : 0 ≤ c ∧ c ≤ 255) {t : TypeId} (h : w.heap[n]? = some (.cells #[.int .u8 c] t (0, 0))) : (b1 c).size = 1 ∧ BytesP w (some (Addr.mk n 0 none)) (b1 c) := by
  refine ⟨rfl, ⟨.inr ⟨n, 0, rfl, ?_⟩⟩⟩
  have : byteCells (b1 c) = [.int .u8 c] := by
    simp only [byteCells, b1, List.map_cons, List.map_nil]
    congr 2
    rw [UInt8.toNat_ofNat']
    omega
  rw [this]
  exact cell_block h 0

def alB (c : Int) : Bool := lowerB c || digitB c
/-- A range of characters begins at an index. -/
def rngB (s : ByteArray) (k : Nat) : Bool := alB (at8 s k) && decide (k + 2 < s.size) && at8 s (k + 1) == 45
/-- A range has ends that don't fit. -/
def badB (c l : Int) : Bool := decide (l < c) || lowerB c != lowerB l || digitB c != digitB l
def singB (s : ByteArray) (k : Nat) : Bool := alB (at8 s k) || at8 s k == 43 || at8 s k == 95 || at8 s k == 46 || (at8 s k == 45 && k == 0)
/-- Which bytes the items at the beginning list, and how long they are. -/
def itemsS (s : ByteArray) : Nat → Nat → (Int → Bool) → (Int → Bool) × Nat
  | 0, k, p => (p, k)
  | f + 1, k, p =>
    if k < s.size then
      if rngB s k = true then
        if badB (at8 s k) (at8 s (k + 2)) = true then (p, k)
        else itemsS s f (k + 3) (fun d => p d || (decide (at8 s k ≤ d) && decide (d ≤ at8 s (k + 2))))
      else if singB s k = true then itemsS s f (k + 1) (fun d => p d || decide (d = at8 s k))
      else (p, k)
    else (p, k)
theorem alB_bd {c : Int} (h : alB c = true) : 0 ≤ c ∧ c ≤ 122 := by
  simp [alB, lowerB, digitB] at h; omega
theorem badB_not {c l : Int} (h : badB c l = false) (hc : alB c = true) : c ≤ l ∧ alB l = true := by
  simp [badB] at h
  obtain ⟨⟨h1, h2⟩, h3⟩ := h
  unfold alB at hc ⊢
  rw [← h2, ← h3]
  exact ⟨by omega, hc⟩

theorem items_any (s : ByteArray) (w : World) (hs : s.size ≤ 1073741824) : Calls Tryz.prog 76 #[.string s] w fun e w' =>
    ∃ x : ByteArray, e = .returned (.tuple #[.string x, .int .i64 (itemsS s s.size 0 (fun _ => false)).2]) ∧ (∀ d, 0 ≤ d → d ≤ 255 → hasB x d = (itemsS s s.size 0 (fun _ => false)).1 d) ∧ x.size ≤ 256 * s.size ∧ K0 w w' := by
  refine vc_items s w _ ?_
  unfold VC_items
  refine ⟨fun vs w' => ∃ (k f : Nat) (cs : ByteArray) (p : Int → Bool), vs = [.int .i64 k, .string cs] ∧ k ≤ s.size ∧ s.size - k ≤ f ∧ itemsS s f k p = itemsS s s.size 0 (fun _ => false) ∧
      cs.size ≤ 256 * k ∧ (∀ d, 0 ≤ d → d ≤ 255 → hasB cs d = p d) ∧ K0 w w', fun vs _ => (match vs with | .int _ x :: _ => s.size - x.toNat | _ => 0),
    ⟨0, s.size, ⟨#[]⟩, fun _ => false, rfl, by omega, by omega, rfl, by simp [ByteArray.size], fun d _ _ => rfl, .refl _ _⟩, fun x x_1 w' ⟨k, f, cs, p, hv, hk, hf, hS, hcs, hp, hw⟩ => ?_⟩
  simp only [List.cons.injEq, Value.int.injEq, true_and, Value.string.injEq, and_true] at hv
  obtain ⟨rfl, rfl⟩ := hv
  have fin : itemsS s f k p = (p, k) → (∃ x : ByteArray, Ending.returned (.tuple #[.string x_1, .int .i64 (k : Int)]) = .returned (.tuple #[.string x, .int .i64 (itemsS s s.size 0 (fun _ => false)).2]) ∧
      (∀ d, 0 ≤ d → d ≤ 255 → hasB x d = (itemsS s s.size 0 (fun _ => false)).1 d) ∧ x.size ≤ 256 * s.size ∧ K0 w w') := fun h => by
    rw [← hS, h]
    exact ⟨x_1, rfl, hp, by omega, hw⟩
  refine bsp_intro (fun hlt => ⟨?_, ?_, ?_⟩) (fun hge => ?_)
  · have : k < s.size := by simpa using hlt
    omega
  · have hlt : k < s.size := by simpa using hlt
    refine gimp_intro fun hg => ?_
    simp only [Bool.and_eq_true, decide_eq_true_eq] at hg
    have h2 := hg.2
    rw [wr64 (by omega) (by omega)] at h2
    rw [wr64 (by omega) (by omega)]
    omega
  · have hlt : k < s.size := by simpa using hlt
    rw [wr64 (x := (k : Int) + 2) (by omega) (by omega), wr64 (x := (k : Int) + 1) (by omega) (by omega), wr64 (x := (k : Int) + 3) (by omega) (by omega)]
    have e1 : ((k : Int) + 1).toNat = k + 1 := by omega
    have e2 : ((k : Int) + 2).toNat = k + 2 := by omega
    have e0 : (k : Int).toNat = k := by omega
    rw [e1, e2, e0]
    obtain ⟨f, rfl⟩ : ∃ g, f = g + 1 := ⟨f - 1, by omega⟩
    have hr : ((lowerB (at8 s k) || digitB (at8 s k)) && decide ((k : Int) + 2 < (s.size : Int)) && at8 s (k + 1) == 45) = rngB s k := by
      unfold rngB alB
      congr 2
      apply decide_eq_decide.2; omega
    rw [hr]
    have hbd := at8_bd s k
    refine bsp_intro (fun h1 => ⟨?_, ?_⟩) (fun h1 => ?_)
    · simp [rngB] at h1; omega
    · have h1' := h1
      simp only [rngB, Bool.and_eq_true, decide_eq_true_eq] at h1'
      have hb : (decide (at8 s (k + 2) < at8 s k) || !lowerB (at8 s k) == lowerB (at8 s (k + 2)) || !digitB (at8 s k) == digitB (at8 s (k + 2))) = badB (at8 s k) (at8 s (k + 2)) := rfl
      rw [hb]
      refine bsp_intro (fun h2 => ?_) (fun h2 => ?_)
      · exact fin (by simp [itemsS, hlt, h1, h2])
      · obtain ⟨hle, hal⟩ := badB_not h2 h1'.1.1
        have hlb := alB_bd hal
        have hcb := alB_bd h1'.1.1
        refine ⟨fun vs w1 => ∃ (j : Nat) (cs : ByteArray), vs = [.int .u8 (at8 s k + j), .string cs] ∧ at8 s k + j ≤ at8 s (k + 2) + 1 ∧ cs.size ≤ 256 * k + j ∧
            (∀ d, 0 ≤ d → d ≤ 255 → hasB cs d = (p d || (decide (at8 s k ≤ d) && decide (d < at8 s k + j)))) ∧ K0 w w1, fun vs _ => (match vs with | .int _ x :: _ => (at8 s (k + 2) + 1 - x).toNat | _ => 0),
          ⟨0, x_1, by simp, by omega, by omega, fun d h0 h9 => ?_, hw⟩, fun x_2 x_3 w1 ⟨j, cs, hv, hj, hcs', hp', hw1⟩ => ?_⟩
        · rw [hp d h0 h9]
          have : (decide (at8 s k ≤ d) && decide (d < at8 s k + (0 : Nat))) = false := by simp
          rw [this]; simp
        · simp only [List.cons.injEq, Value.int.injEq, true_and, Value.string.injEq, and_true] at hv
          obtain ⟨rfl, rfl⟩ := hv
          refine bsp_intro (fun h3 => fun n w2 hn => ⟨b1 (at8 s k + j), b1_bytes (by simp at h3; omega) hn.block, ?_, ?_⟩) (fun h3 => ⟨?_, ?_⟩)
          · show (((x_3.size + (b1 (at8 s k + j)).size : Nat) : Int) ≤ 9223372036854775807)
            rw [b1_size]
            simp at h3
            omega
          · have h3 : at8 s k + j ≤ at8 s (k + 2) := by simpa using h3
            have hwr : IntKind.u8.wrap (at8 s k + j + 1) = at8 s k + (j + 1 : Nat) := by
              have : IntKind.u8.wrap (at8 s k + j + 1) = at8 s k + j + 1 := IntWalk.u8_in _ ⟨by omega, by omega⟩
              rw [this]; omega
            rw [hwr]
            refine ⟨⟨j + 1, x_3 ++ b1 (at8 s k + j), rfl, by omega, by rw [ByteArray.size_append, b1_size]; omega, fun d h0 h9 => ?_, hw1.trans (hn.kp _)⟩, by simp; omega⟩
            rw [hasB_b1 (by omega) ⟨h0, h9⟩, hp' d h0 h9, Bool.or_assoc]
            congr 1
            rw [Bool.eq_iff_iff]
            simp
            omega
          · have h3 : ¬ at8 s k + j ≤ at8 s (k + 2) := by simpa using h3
            refine ⟨k + 3, f, x_3, fun d => p d || (decide (at8 s k ≤ d) && decide (d ≤ at8 s (k + 2))), by simp, by omega, by omega, ?_, by omega, fun d h0 h9 => ?_, hw1⟩
            · rw [← hS]
              simp [itemsS, hlt, h1, h2]
            · rw [hp' d h0 h9]
              congr 2
              apply decide_eq_decide.2
              omega
          · simp; omega
    · have hsg : (lowerB (at8 s k) || digitB (at8 s k) || at8 s k == 43 || at8 s k == 95 || at8 s k == 46 || at8 s k == 45 && (k : Int) == 0) = singB s k := by
        unfold singB alB
        congr 2
        rw [Bool.eq_iff_iff]; simp
      rw [hsg]
      refine bsp_intro (fun h2 => fun n w2 hn => ⟨b1 (at8 s k), b1_bytes (by omega) hn.block, ?_, ?_, ?_⟩) (fun h2 => ?_)
      · show (((x_1.size + (b1 (at8 s k)).size : Nat) : Int) ≤ 9223372036854775807)
        rw [b1_size]
        omega
      · refine ⟨k + 1, f, x_1 ++ b1 (at8 s k), fun d => p d || decide (d = at8 s k), by simp, by omega, by omega, ?_, by rw [ByteArray.size_append, b1_size]; omega, fun d h0 h9 => ?_, hw.trans (hn.kp _)⟩
        · rw [← hS]
          simp [itemsS, hlt, h1, h2]
        · rw [hasB_b1 (by omega) ⟨h0, h9⟩, hp d h0 h9]
      · simp; omega
      · exact fin (by simp [itemsS, hlt, h1, h2])
  · have hge : ¬ k < s.size := by simpa using hge
    refine fin ?_
    cases f with
    | zero => rfl
    | succ f => simp [itemsS, hge]

end Go.Proofs.YtcpjajjocmpkjaaGreatDoor

/- The contract of wildmat.parseClass, by a plain function. The text has at least one and at most 2^20 bytes. -/
namespace Go.Proofs.YtcpjajjocmpkjaaGreatDoor
open Go.RowKit

theorem byteCells_length (s : ByteArray) : (byteCells s).length = s.size := by
  unfold byteCells
  rw [List.length_map]
  exact s.data.length_toList
/-- A row of bytes as a string. -/
theorem owns_bytes {w : World} {base : Nat} {e : TypeId} {p : Option Addr} {n c : Nat} {s : ByteArray} (h : w.ownsRow base e 1 (.slice p n c) n (byteCells s)) : s.size = n ∧ BytesP w p s := by
  have hl := h.1
  rw [byteCells_length] at hl
  refine ⟨by omega, ⟨?_⟩⟩
  rcases h.2 with ⟨_, hn⟩ | ⟨g, cap, cur, hv, _, hg, _, _, _, ht⟩
  · left; omega
  · right
    simp only [Value.slice.injEq] at hv
    refine ⟨g, 0, hv.1, At_of _ 0 fun j v hj => ?_⟩
    rw [Nat.zero_add, cell_block hg]
    rw [← ht, List.getElem?_take] at hj
    split at hj
    · simpa using hj
    · simp at hj

def pickB (x : ByteArray) (neg : Bool) (b : UInt8) : Bool := !(hasB x (b.toNat : Int) == neg)
/-- The characters of a class. -/
def clsB (x : ByteArray) (neg : Bool) : ByteArray := ⟨(nameBytes.data.toList.filter (pickB x neg)).toArray⟩
theorem byteCells_cls (x : ByteArray) (neg : Bool) : byteCells (clsB x neg) = (nameBytes.data.toList.filter (pickB x neg)).map (fun b => Value.int .u8 b.toNat) := by simp [byteCells, clsB]

theorem class_loop {w0 wS : World} {n : Nat} {x : ByteArray} {neg : Bool} {R : ByteArray → World → Prop} {t : TypeId} {fz : Nat × Nat} (hb : wS.heap[n]? = some (.cells (byteCells nameBytes).toArray t fz)) (hK : K0 w0 wS) (hR : ∀ w', K0 w0 w' → R (clsB x neg) w') :
    ∃ (I : List Value → World → Prop), ∃ (m : List Value → World → Nat), I [.int .i64 0, .slice none 0 0] wS ∧
      ∀ (x_2 : Int) (p : Option Addr) (n_1 c : Nat) (w' : World), I [.int .i64 x_2, .slice p n_1 c] w' →
        bsp (decide (x_2 < (↑40 : Int)))
          ((0 ≤ x_2 ∧ x_2 < (↑40 : Int)) ∧
            ∃ (x_3 : Int), w'.cell? (Addr.mk n (0 + x_2.toNat) none) = some (.int .u8 x_3) ∧
              bsp (!decide (Lib.indexByte x.data.toList x_3.toNat.toUInt8 ≥ 0) == neg)
                (∀ (n : Nat) (w1 : World), NewB w' (Obj.cells #[.int .u8 x_3] 5) n w1 →
                  ∃ (base : Nat), ∃ (xs : List Value), ∃ (news : List Value), w1.ownsRow base 5 1 (.slice p n_1 c) n_1 xs ∧ news.length = 1 ∧ SrcP w1 (some (Addr.mk n 0 none)) news ∧
                    n_1 + 1 ≤ 9223372036854775807 ∧ (n_1 + 1) * 1 ≤ 140737488355328 ∧ base ≤ w1.heap.size ∧
                    ∀ (p' : Option Addr) (c' : Nat) (w'_1 : World), w'_1.ownsRow base 5 1 (.slice p' (n_1 + 1) c') (n_1 + 1) (xs ++ news) → w1.grownBy w'_1 (Value.slice p n_1 c).ownBlock →
                      I [.int .i64 (IntKind.i64.wrap (x_2 + 1)), .slice p' (n_1 + 1) c'] w'_1 ∧ m [.int .i64 (IntKind.i64.wrap (x_2 + 1)), .slice p' (n_1 + 1) c'] w'_1 < m [.int .i64 x_2, .slice p n_1 c] w')
                (I [.int .i64 (IntKind.i64.wrap (x_2 + 1)), .slice p n_1 c] w' ∧ m [.int .i64 (IntKind.i64.wrap (x_2 + 1)), .slice p n_1 c] w' < m [.int .i64 x_2, .slice p n_1 c] w'))
          (∃ (s : ByteArray), (s.size = n_1 ∧ BytesP w' p s) ∧ R s w') := by
  let l := nameBytes.data.toList
  have hl : l.length = 40 := rfl
  let cell := fun b : UInt8 => Value.int .u8 b.toNat
  refine ⟨fun vs w' => ∃ (k : Nat) (p : Option Addr) (n_1 c : Nat), vs = [.int .i64 k, .slice p n_1 c] ∧ k ≤ 40 ∧ n_1 ≤ k ∧ K0 wS w' ∧ w'.ownsRow wS.heap.size 5 1 (.slice p n_1 c) n_1 (((l.take k).filter (pickB x neg)).map cell),
    fun vs _ => (match vs with | .int _ x :: _ => 40 - x.toNat | _ => 0), ⟨0, none, 0, 0, rfl, by omega, by omega, .refl _ _, World.ownsRow_nil _ _ _ _⟩, fun x_2 p n_1 c w' ⟨k, p', n', c', hv, hk, hn, hw, ho⟩ => ?_⟩
  simp only [List.cons.injEq, Value.int.injEq, true_and, Value.slice.injEq, and_true] at hv
  obtain ⟨rfl, rfl, rfl, rfl⟩ := hv
  have hbw : w'.heap[n]? = some (.cells (byteCells nameBytes).toArray t fz) := hw.blk hb (fun h => h)
  have hnb : n < wS.heap.size := block_lt hb
  refine bsp_intro (fun hlt => ?_) (fun hge => ?_)
  · have hlt : (k : Int) < 40 := of_decide_eq_true hlt
    have hlt : k < 40 := by omega
    have hlk : l[k]? = some (l[k]'(by rw [hl]; exact hlt)) := List.getElem?_eq_getElem _
    generalize hbk : l[k]'(by rw [hl]; exact hlt) = b at hlk
    have hbd := b.toNat_lt
    have htk : l.take (k + 1) = l.take k ++ [b] := by rw [List.take_add_one, hlk]; rfl
    have hwr : IntKind.i64.wrap ((k : Int) + 1) = ((k + 1 : Nat) : Int) := by rw [wr64 (by omega) (by omega)]; omega
    rw [hwr]
    refine ⟨by omega, (b.toNat : Int), ?_, ?_⟩
    · rw [Nat.zero_add, Int.toNat_natCast, cell_block hbw]
      have : (byteCells nameBytes)[k]? = some (.int .u8 b.toNat) := by
        show (l.map fun b => Value.int .u8 b.toNat)[k]? = _
        rw [List.getElem?_map, hlk]; rfl
      simpa using this
    · have hP : (!decide (Lib.indexByte x.data.toList (b.toNat : Int).toNat.toUInt8 ≥ 0) == neg) = pickB x neg b := by
        unfold pickB
        rw [show decide (Lib.indexByte x.data.toList (b.toNat : Int).toNat.toUInt8 ≥ 0) = hasB x (b.toNat : Int) from indexByte_nonneg _ _]
      rw [hP]
      refine bsp_intro (fun hp => fun n2 w1 hn2 => ?_) (fun hp => ⟨⟨k + 1, p, n_1, c, rfl, by omega, by omega, hw, ?_⟩, by simp; omega⟩)
      · have hK1 : K0 wS w1 := hw.trans (hn2.kp _)
        refine ⟨wS.heap.size, _, [.int .u8 b.toNat], owns_kp ho (hn2.kp (fun _ => False)) (fun _ _ h => h), rfl, src_block hn2.block (by simp [Value.oneCell']), by omega, by omega, hK1.size, fun p' c' w2 ho2 hg => ?_⟩
        refine ⟨⟨k + 1, p', n_1 + 1, c', rfl, by omega, by omega, hK1.grown hg (fun q hq => .inl (ho.lt q hq).1), ?_⟩, by simp; omega⟩
        rw [htk, List.filter_append, List.map_append]
        simpa [List.filter, hp, cell] using ho2
      · rw [htk, List.filter_append, List.map_append]
        simpa [List.filter, hp] using ho
  · have hge : ¬ (k : Int) < 40 := of_decide_eq_false hge
    have h40 : k = 40 := by omega
    subst h40
    have ht : l.take 40 = l := List.take_of_length_le (by rw [hl]; exact Nat.le_refl _)
    rw [ht, ← byteCells_cls] at ho
    exact ⟨clsB x neg, owns_bytes ho, hR w' (hK.trans hw)⟩

theorem itemsS_le (s : ByteArray) : ∀ (f k : Nat) (p : Int → Bool), k ≤ s.size → (itemsS s f k p).2 ≤ s.size
  | 0, k, p, h => h
  | f + 1, k, p, h => by
    unfold itemsS
    split
    · split
      · rename_i hr
        simp [rngB] at hr
        split
        · exact h
        · exact itemsS_le s f _ _ (by omega)
      · split
        · exact itemsS_le s f _ _ (by omega)
        · exact h
    · exact h
def negB (s : ByteArray) : Bool := Lib.hasPrefix s.data.toList [91, 94]
def fromN (s : ByteArray) : Nat := if negB s = true then 2 else 1
def restB (s : ByteArray) : ByteArray := s.extract (fromN s) s.size
def listS (s : ByteArray) : (Int → Bool) × Nat := itemsS (restB s) (restB s).size 0 (fun _ => false)
/-- The length of the class at the beginning, or 0. -/
def clsN (s : ByteArray) : Nat := if (listS s).2 = 0 ∨ fromN s + (listS s).2 = s.size ∨ at8 s (fromN s + (listS s).2) ≠ 93 then 0 else fromN s + (listS s).2 + 1
/-- The characters of the class at the beginning. -/
def clsS (s : ByteArray) : ByteArray := if clsN s = 0 then ⟨#[]⟩ else ⟨(nameBytes.data.toList.filter fun b => !((listS s).1 b.toNat == negB s)).toArray⟩
theorem hasPrefix_size {s : ByteArray} (h : negB s = true) : 2 ≤ s.size := by
  have hl : s.data.toList.length = s.size := s.data.length_toList
  unfold negB at h
  cases hs : s.data.toList with
  | nil => rw [hs] at h; simp [Lib.hasPrefix] at h
  | cons a r => cases r with
    | nil => rw [hs] at h; simp [Lib.hasPrefix] at h
    | cons b r => rw [hs] at hl; simp at hl; omega
theorem clsB_eq {s x : ByteArray} (h : clsN s ≠ 0) (hx : ∀ d, 0 ≤ d → d ≤ 255 → hasB x d = (listS s).1 d) : clsB x (negB s) = clsS s := by
  unfold clsB clsS
  rw [if_neg h]
  congr 2
  apply List.filter_congr
  intro b _
  unfold pickB
  rw [hx b.toNat (by omega) (by have := b.toNat_lt; omega)]
theorem parseClass_any (s : ByteArray) (w : World) (h1 : 1 ≤ s.size) (hs : s.size ≤ 1048576) : Calls Tryz.prog 56 #[.string s] w fun e w' =>
    e = .returned (.tuple #[.string (clsS s), .int .i64 (clsN s)]) ∧ K0 w w' := by
  refine vc_parseClass s w _ ?_
  unfold VC_parseClass
  have hsz : (restB s).size = s.size - fromN s := by unfold restB; rw [ByteArray.size_extract]; simp
  have key : ∀ (fr : Nat), fr = fromN s → ∀ (e : Ending) (w' : World), (∃ x : ByteArray, e = .returned (.tuple #[.string x, .int .i64 (listS s).2]) ∧ (∀ d, 0 ≤ d → d ≤ 255 → hasB x d = (listS s).1 d) ∧ x.size ≤ 256 * (restB s).size ∧ K0 w w') →
      (fr : Int) ≤ s.size →
      IntKind.i64.wrap ((fr : Int) + (listS s).2) = ((fr + (listS s).2 : Nat) : Int) := fun fr hfr e w' _ hle => by
    have := itemsS_le (restB s) (restB s).size 0 (fun _ => false) (by omega)
    have h2 : (listS s).2 ≤ (restB s).size := this
    rw [hsz] at h2
    rw [wr64 (by omega) (by omega)]; omega
  have hN : ∀ {w' : World}, ((listS s).2 = 0 ∨ fromN s + (listS s).2 = s.size ∨ at8 s (fromN s + (listS s).2) ≠ 93) → K0 w w' →
      (Ending.returned (.tuple #[.string ⟨#[]⟩, .int .i64 0]) = .returned (.tuple #[.string (clsS s), .int .i64 (clsN s)]) ∧ K0 w w') := fun h hk => by
    have h0 : clsN s = 0 := by unfold clsN; rw [if_pos h]
    refine ⟨?_, hk⟩
    unfold clsS
    rw [h0, if_pos rfl]
    rfl
  have core : ∀ (fr : Nat), fr = fromN s → fr ≤ s.size → ∀ (e : Ending) (w' : World), (∃ x : ByteArray, e = .returned (.tuple #[.string x, .int .i64 (listS s).2]) ∧ (∀ d, 0 ≤ d → d ≤ 255 → hasB x d = (listS s).1 d) ∧ x.size ≤ 256 * (restB s).size ∧ K0 w w') →
      ∃ (x : ByteArray), ∃ (x_1 : Int), e = .returned (.tuple #[.string x, .int .i64 x_1]) ∧
        gimp (!(x_1 == 0 || IntKind.i64.wrap ((fr : Int) + x_1) == (↑s.size : Int))) (0 ≤ IntKind.i64.wrap ((fr : Int) + x_1) ∧ IntKind.i64.wrap ((fr : Int) + x_1) < (↑s.size : Int)) ∧
        bsp (x_1 == 0 || IntKind.i64.wrap ((fr : Int) + x_1) == (↑s.size : Int) || at8 s (IntKind.i64.wrap ((fr : Int) + x_1)).toNat != 93)
          (Ending.returned (.tuple #[.string ⟨#[]⟩, .int .i64 0]) = .returned (.tuple #[.string (clsS s), .int .i64 (clsN s)]) ∧ K0 w w')
          (∀ (n : Nat) (w1 : World), NewB w' (Obj.cells (byteCells nameBytes).toArray 5) n w1 → ∀ (w2 : World), MarkB w1 n w2 → clsN s ≠ 0 ∧ K0 w w2 ∧ w2.heap[n]? = some (.cells (byteCells nameBytes).toArray 5 (40, 41)) ∧
            (∀ d, 0 ≤ d → d ≤ 255 → hasB x d = (listS s).1 d) ∧ IntKind.i64.wrap (IntKind.i64.wrap ((fr : Int) + x_1) + 1) = (clsN s : Int)) := fun fr hfr hle e w' he => by
    have hk := key fr hfr e w' he (by omega)
    obtain ⟨x, he, hx, _, hw⟩ := he
    refine ⟨x, _, he, ?_⟩
    rw [hk]
    have h2 : (listS s).2 ≤ (restB s).size := itemsS_le (restB s) (restB s).size 0 (fun _ => false) (by omega)
    rw [hsz] at h2
    have hcond : ((((listS s).2 : Nat) : Int) == 0 || ((fr + (listS s).2 : Nat) : Int) == (↑s.size : Int) || at8 s (((fr + (listS s).2 : Nat) : Int)).toNat != 93) = true ↔ ((listS s).2 = 0 ∨ fromN s + (listS s).2 = s.size ∨ at8 s (fromN s + (listS s).2) ≠ 93) := by
      rw [Int.toNat_natCast, hfr]
      simp only [Bool.or_eq_true, beq_iff_eq, bne_iff_ne, ne_eq, or_assoc]
      constructor
      · rintro (h | h | h)
        · left; omega
        · right; left; omega
        · right; right; exact h
      · rintro (h | h | h)
        · left; omega
        · right; left; omega
        · right; right; exact h
    refine ⟨gimp_intro fun hg => ?_, bsp_intro (fun hc => hN (hcond.1 hc) hw) (fun hc => fun n w1 hn w2 hm => ?_)⟩
    · simp only [Bool.not_eq_true', Bool.or_eq_false_iff, beq_eq_false_iff_ne, ne_eq] at hg
      omega
    · have hc' : ¬ ((listS s).2 = 0 ∨ fromN s + (listS s).2 = s.size ∨ at8 s (fromN s + (listS s).2) ≠ 93) := fun h => by rw [hcond.2 h] at hc; cases hc
      have hcn : clsN s = fromN s + (listS s).2 + 1 := by unfold clsN; rw [if_neg hc']
      refine ⟨by omega, ?_, hm.block hn.block, hx, ?_⟩
      · have := hn.ge
        have := hw.size
        exact (hw.trans (hn.kp _)).fresh hm.kp (fun i hi h => by omega)
      · rw [hcn, ← hfr, wr64 (by omega) (by omega)]; omega
  refine bsp_intro (fun hneg => ?_) (fun hneg => ?_)
  · have hf : fromN s = 2 := by unfold fromN; exact if_pos (show negB s = true from hneg)
    have h2 := hasPrefix_size hneg
    have hr : s.extract 2 s.size = restB s := by unfold restB; rw [hf]
    rw [hr]
    refine ⟨⟨by decide, by omega⟩, ⟨(items_any (restB s) w (by omega)).mono fun e w' he => ?_⟩⟩
    obtain ⟨x, x_1, h3, h4, h5⟩ := core 2 hf.symm h2 e w' he
    refine ⟨x, x_1, h3, h4, bsp_mono h5 (fun h => h) (fun h n w1 hn w2 hm => ?_)⟩
    obtain ⟨q1, q2, q3, q4, q5⟩ := h n w1 hn w2 hm
    refine class_loop q3 q2 (fun w3 hk => ⟨?_, hk⟩)
    rw [show IntKind.i64.wrap (IntKind.i64.wrap (2 + x_1) + 1) = (clsN s : Int) from q5]
    rw [show Lib.hasPrefix s.data.toList [91, 94] = negB s from rfl, clsB_eq q1 q4]
  · have hf : fromN s = 1 := by unfold fromN; rw [if_neg (by rw [show negB s = false from hneg]; decide)]
    have hr : s.extract 1 s.size = restB s := by unfold restB; rw [hf]
    rw [hr]
    refine ⟨⟨by decide, by omega⟩, ⟨(items_any (restB s) w (by omega)).mono fun e w' he => ?_⟩⟩
    obtain ⟨x, x_1, h3, h4, h5⟩ := core 1 hf.symm h1 e w' he
    refine ⟨x, x_1, h3, h4, bsp_mono h5 (fun h => h) (fun h n w1 hn w2 hm => ?_)⟩
    obtain ⟨q1, q2, q3, q4, q5⟩ := h n w1 hn w2 hm
    refine class_loop q3 q2 (fun w3 hk => ⟨?_, hk⟩)
    rw [show IntKind.i64.wrap (IntKind.i64.wrap (1 + x_1) + 1) = (clsN s : Int) from q5]
    rw [show Lib.hasPrefix s.data.toList [91, 94] = negB s from rfl, clsB_eq q1 q4]

end Go.Proofs.YtcpjajjocmpkjaaGreatDoor
