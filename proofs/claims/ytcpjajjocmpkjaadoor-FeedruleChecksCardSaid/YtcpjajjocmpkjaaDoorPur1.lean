/- Functions without an effect (IsLower, IsDigit, isPermitted, alnum, Char, IndexByte, HasPrefix), and isStar, stands,, by plain functions. No condition. -/
import Derived.Test.YtcpjajjocmpkjaaDoorVcPure
import Derived.Test.YtcpjajjocmpkjaaDoorWorld
import Derived.Test.YtcpjajjocmpkjaaDoorShelf
namespace Go.Proofs.YtcpjajjocmpkjaaDoor
open Go.RowKit

def lowerB (c : Int) : Bool := decide (97 ≤ c) && decide (c ≤ 122)
def digitB (c : Int) : Bool := decide (48 ≤ c) && decide (c ≤ 57)
def permB (c : Int) : Bool := lowerB c || digitB c || c == 45 || c == 46
def alnumI (c : Int) : Int := if lowerB c = true then 1 else if digitB c = true then 2 else 0
def charB (c : Int) : Bool := lowerB c || digitB c || c == 43 || c == 45 || c == 95 || c == 46
theorem isLower_any (c : Int) (w : World) : Calls Tryd.prog 61 #[.int .u8 c] w fun e w' => e = .returned (.bool (lowerB c)) ∧ w' = w := vc_isLower c w _ ⟨rfl, rfl⟩
theorem isDigit_any (c : Int) (w : World) : Calls Tryd.prog 62 #[.int .u8 c] w fun e w' => e = .returned (.bool (digitB c)) ∧ w' = w := vc_isDigit c w _ ⟨rfl, rfl⟩
theorem isPermitted_any (c : Int) (w : World) : Calls Tryd.prog 60 #[.int .u8 c] w fun e w' => e = .returned (.bool (permB c)) ∧ w' = w := by
  refine vc_isPermitted c w _ ⟨(isLower_any c w).mono fun e w' ⟨he, hw⟩ => ⟨_, he, ?_⟩⟩
  subst hw
  refine bsp_intro (fun h => ⟨(isDigit_any c w').mono fun e w' ⟨he, hw⟩ => ⟨_, he, ?_, hw⟩⟩) (fun h => ⟨?_, rfl⟩)
  · have h : lowerB c = false := by simpa using h
    simp [permB, h]
  · have h : lowerB c = true := by simpa using h
    simp [permB, h]
theorem alnum_any (c : Int) (w : World) : Calls Tryd.prog 92 #[.int .u8 c] w fun e w' => e = .returned (.int .i64 (alnumI c)) ∧ w' = w := by
  refine vc_alnum c w _ (bsp_intro (fun h => ?_) fun h => bsp_intro (fun h1 => ?_) fun h1 => ?_)
  · have h : lowerB c = true := h
    exact ⟨by simp [alnumI, h], rfl⟩
  · have h : lowerB c = false := h
    have h1 : digitB c = true := h1
    exact ⟨by simp [alnumI, h, h1], rfl⟩
  · have h : lowerB c = false := h
    have h1 : digitB c = false := h1
    exact ⟨by simp [alnumI, h, h1], rfl⟩
theorem alnumI_pos (c : Int) : decide (alnumI c > 0) = (lowerB c || digitB c) := by
  unfold alnumI; cases lowerB c <;> cases digitB c <;> simp
theorem char_any (c : Int) (w : World) : Calls Tryd.prog 71 #[.int .u8 c] w fun e w' => e = .returned (.bool (charB c)) ∧ w' = w := by
  refine vc_char c w _ ⟨(alnum_any c w).mono fun e w' ⟨he, hw⟩ => ⟨_, he, ?_, hw⟩⟩
  rw [alnumI_pos]
  simp [charB]

/-- An element of a pattern. -/
inductive El where
  | lit (s : ByteArray)
  | one
  | star
  | cls (s : ByteArray)
/-- '+-.0123456789_abcdefghijklmnopqrstuvwxyz'. -/
def nameBytes : ByteArray := ⟨#[43, 45, 46, 48, 49, 50, 51, 52, 53, 54, 55, 56, 57, 95, 97, 98, 99, 100, 101, 102, 103, 104, 105, 106, 107, 108, 109, 110, 111, 112, 113, 114, 115, 116, 117, 118, 119, 120, 121, 122]⟩
def El.val : El → Value
  | .lit s => .iface 147 (.string s)
  | .one => .iface 141 (.agg #[])
  | .star => .iface 142 (.agg #[])
  | .cls s => .iface 143 (.string s)
def El.chars : El → ByteArray
  | .lit s => s
  | .one => nameBytes
  | .star => nameBytes
  | .cls s => s
def El.isStar : El → Bool
  | .star => true
  | _ => false
def hasB (s : ByteArray) (c : Int) : Bool := s.data.toList.contains c.toNat.toUInt8
theorem indexByte_nonneg (l : List UInt8) (c : UInt8) : decide (0 ≤ Lib.indexByte l c) = l.contains c := by
  induction l with
  | nil => rfl
  | cons b r ih =>
    have hb : Lib.indexByte (b :: r) c = if b == c then 0 else if Lib.indexByte r c == -1 then -1 else Lib.indexByte r c + 1 := rfl
    rw [hb, List.contains_cons]
    by_cases h : b = c
    · subst h; simp
    · have h1 : (b == c) = false := by simpa using h
      have h2 : (c == b) = false := by simpa using fun e => h e.symm
      rw [h1, h2]
      simp only [Bool.false_or]
      rw [← ih]
      have hge : -1 ≤ Lib.indexByte r c := by
        clear ih hb
        induction r with
        | nil => exact Int.le_refl _
        | cons x r ih => 
          have hx : Lib.indexByte (x :: r) c = if x == c then 0 else if Lib.indexByte r c == -1 then -1 else Lib.indexByte r c + 1 := rfl
          rw [hx]; split
          · decide
          · split
            · decide
            · omega
      by_cases h3 : Lib.indexByte r c = -1
      · simp [h3]
      · have : (Lib.indexByte r c == -1) = false := by simpa using h3
        rw [this]
        apply decide_eq_decide.2
        simp only [Bool.false_eq_true, if_false]
        omega
theorem indexByte_any (s : ByteArray) (c : Int) (w : World) : Calls Tryd.prog 70 #[.string s, .int .u8 c] w fun e w' => e = .returned (.int .i64 (Lib.indexByte s.data.toList c.toNat.toUInt8)) ∧ w' = w := Tryd.strings_IndexByte s c w
theorem isStar_any (x : El) (w : World) : Calls Tryd.prog 95 #[x.val] w fun e w' => e = .returned (.bool x.isStar) ∧ K0 w w' := by
  cases x with
  | lit s => exact vc_isStarL s w _ fun n w1 hn => ⟨trivial, fun w2 hp => ⟨rfl, (hn.kp _).trans (by rw [hp.hw]; exact .refl _ _)⟩⟩
  | cls s => exact vc_isStarC s w _ fun n w1 hn => ⟨trivial, fun w2 hp => ⟨rfl, (hn.kp _).trans (by rw [hp.hw]; exact .refl _ _)⟩⟩
  | one => exact vc_isStarQ w _ fun n w1 hn => ⟨trivial, fun w2 hp => ⟨rfl, (hn.kp _).trans (by rw [hp.hw]; exact .refl _ _)⟩⟩
  | star => exact vc_isStarS w _ fun n w1 hn => ⟨trivial, fun w2 hp => ⟨rfl, (hn.kp _).trans (by rw [hp.hw]; exact .refl _ _)⟩⟩
theorem stands_any (x : El) (c : Int) (w : World) : Calls Tryd.prog 94 #[x.val, .int .u8 c] w fun e w' => e = .returned (.bool (hasB x.chars c)) ∧ K0 w w' := by
  have key : ∀ (s : ByteArray) (w1 : World), K0 w w1 → CallsS Tryd.prog 70 #[.string s, .int .u8 c] w1 fun e w' => ∃ x : Int, e = .returned (.int .i64 x) ∧ (Ending.returned (.bool (decide (x ≥ 0))) = .returned (.bool (hasB s c)) ∧ K0 w w') := fun s w1 h1 =>
    ⟨(indexByte_any s c w1).mono fun e w' ⟨he, hw⟩ => ⟨_, he, by rw [show decide (Lib.indexByte s.data.toList c.toNat.toUInt8 ≥ 0) = hasB s c from indexByte_nonneg _ _], hw ▸ h1⟩⟩
  cases x with
  | lit s => exact vc_standsL s c w _ ⟨(vc_litChars s w (fun e w' => e = .returned (.string s) ∧ K0 w w') ⟨rfl, .refl _ _⟩).mono fun e w' ⟨he, hw⟩ => ⟨_, he, key s w' hw⟩⟩
  | cls s => exact vc_standsC s c w _ ⟨(vc_classChars s w (fun e w' => e = .returned (.string s) ∧ K0 w w') ⟨rfl, .refl _ _⟩).mono fun e w' ⟨he, hw⟩ => ⟨_, he, key s w' hw⟩⟩
  | one => exact vc_standsQ c w _ ⟨(vc_singleChars w (fun e w' => e = .returned (.string nameBytes) ∧ K0 w w') fun n w1 hn => ⟨rfl, hn.kp _⟩).mono fun e w' ⟨he, hw⟩ => ⟨_, he, key _ w' hw⟩⟩
  | star => exact vc_standsS c w _ ⟨(vc_starChars w (fun e w' => e = .returned (.string nameBytes) ∧ K0 w w') fun n w1 hn => ⟨rfl, hn.kp _⟩).mono fun e w' ⟨he, hw⟩ => ⟨_, he, key _ w' hw⟩⟩

def pur1 (f : FuncId) (args : List Value) : Option (Option Prop × Value) :=
  match f with
  | 61 => (match args with | [.int .u8 c] => some (none, .bool (lowerB c)) | _ => none)
  | 62 => (match args with | [.int .u8 c] => some (none, .bool (digitB c)) | _ => none)
  | 60 => (match args with | [.int .u8 c] => some (none, .bool (permB c)) | _ => none)
  | 92 => (match args with | [.int .u8 c] => some (none, .int .i64 (alnumI c)) | _ => none)
  | 71 => (match args with | [.int .u8 c] => some (none, .bool (charB c)) | _ => none)
  | 70 => (match args with | [.string s, .int .u8 c] => some (none, .int .i64 (Lib.indexByte s.data.toList c.toNat.toUInt8)) | _ => none)
  | 54 => (match args with | [.string s, .string p] => some (none, .bool (Lib.hasPrefix s.data.toList p.data.toList)) | _ => none)
  | _ => none
theorem pur1_ok {l : List (Nat × List (Nat × Ck))} {t : List (Nat × Nat)} {j : List (Nat × List (Nat × Ck))} {b : List (Nat × Unit)} : PurOK { P := Tryd.prog, loops := l, pur := pur1, tails := t, joins := j, boxes := b } := fun f args p v h _ => by
  have key : ∀ (fn : Func), Tryd.prog.funcs[f]? = some fn → (fn.name == "runtime.NumGoroutine") = false → fn.body.isNone = false → ∃ fn, Tryd.prog.funcs[f]? = some fn ∧ (fn.name == "runtime.NumGoroutine") = false ∧ fn.body.isNone = false := fun fn h1 h2 h3 => ⟨fn, h1, h2, h3⟩
  simp only [pur1] at h
  split at h
  · split at h
    · simp at h; obtain ⟨rfl, rfl⟩ := h; exact ⟨fun w => isLower_any _ w, key _ Tryd.func61 (by decide) (by decide)⟩
    · simp at h
  · split at h
    · simp at h; obtain ⟨rfl, rfl⟩ := h; exact ⟨fun w => isDigit_any _ w, key _ Tryd.func62 (by decide) (by decide)⟩
    · simp at h
  · split at h
    · simp at h; obtain ⟨rfl, rfl⟩ := h; exact ⟨fun w => isPermitted_any _ w, key _ Tryd.func60 (by decide) (by decide)⟩
    · simp at h
  · split at h
    · simp at h; obtain ⟨rfl, rfl⟩ := h; exact ⟨fun w => alnum_any _ w, key _ Tryd.func92 (by decide) (by decide)⟩
    · simp at h
  · split at h
    · simp at h; obtain ⟨rfl, rfl⟩ := h; exact ⟨fun w => char_any _ w, key _ Tryd.func71 (by decide) (by decide)⟩
    · simp at h
  · split at h
    · simp at h; obtain ⟨rfl, rfl⟩ := h; exact ⟨fun w => indexByte_any _ _ w, key _ Tryd.func70 (by decide) (by decide)⟩
    · simp at h
  · split at h
    · simp at h; obtain ⟨rfl, rfl⟩ := h; exact ⟨fun w => Tryd.strings_HasPrefix _ _ w, key _ Tryd.func54 (by decide) (by decide)⟩
    · simp at h
  · simp at h

end Go.Proofs.YtcpjajjocmpkjaaDoor
