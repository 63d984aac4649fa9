/- A symbolic evaluator for the model's code: 'exec' turns a function's body, at a frame of known values, into a plain proposition, and 'calls_of_exec' shows that the proposition gives the call's contract. Generic: no program, no condition. -/
import Derived.WalkKit
import Derived.Still
import Derived.StillTail
namespace Go.Proofs.YtcpjajjocmpkjaaDoor
open Go.RowKit

/-- What is known of a slot: its value; a bool that is a literal (k); its value where another slot holds a bool (and undef where it does not); nothing. -/
inductive SV where
  | v (x : Value)
  | g (j : Nat) (want : Bool) (x : Value)
  | k (b : Bool)
  | u

abbrev Fr := List SV

/-- The byte at an index, or 0. -/
def at8 (s : ByteArray) (k : Nat) : Int := if h : k < s.size then (s[k].toNat : Int) else 0

def SV.holds (tmps : Array Value) (t : Nat) : SV → Prop
  | .v x => tmps.getD t undef = x
  | .g j want x => (tmps.getD j undef = .bool want → tmps.getD t undef = x) ∧ (¬ tmps.getD j undef = .bool want → tmps.getD t undef = undef)
  | .k b => tmps.getD t undef = .bool b
  | .u => True

structure Rel (l : Fr) (tmps : Array Value) : Prop where
  size : tmps.size = l.length
  at_ : ∀ (t : Nat) (sv : SV), l[t]? = some sv → sv.holds tmps t

def bsp (b : Bool) (X Y : Prop) : Prop := match b with | true => X | false => Y
def gimp (b : Bool) (X : Prop) : Prop := match b with | true => X | false => True
def nn (g : Bool) (p : Option Addr) (K : Nat → Nat → Prop) : Prop :=
  match p with
  | some ⟨b, o, none⟩ => K b o
  | _ => g = false ∧ K 0 0

def kill (d : Nat) : Fr → Fr
  | [] => []
  | .g j w x :: r => (match j == d with | true => .u | false => .g j w x) :: kill d r
  | s :: r => s :: kill d r
def setF : Fr → Nat → SV → Fr
  | [], _, _ => []
  | _ :: r, 0, s => s :: r
  | x :: r, n + 1, s => x :: setF r n s
def putF (l : Fr) (dst : Option Tmp) (sv : SV) : Fr :=
  match dst with
  | none => l
  | some d => setF (kill d l) d sv
def getF : Fr → Nat → SV
  | [], _ => .u
  | s :: _, 0 => s
  | _ :: r, n + 1 => getF r n
def finS (ctx : Option (Nat × Bool)) (dst : Option Tmp) (v : Value) : SV :=
  match ctx with
  | none => .v v
  | some (j, want) => match dst == some j with | true => .u | false => .g j want v
def chain (l : Fr) : Nat → Option (Nat × Bool) → List (Nat × Bool)
  | 0, _ => []
  | _ + 1, none => []
  | n + 1, some (j, want) => (j, want) :: (match getF l j with | .g j' w' _ => chain l n (some (j', w')) | _ => [])
def bwant (want b : Bool) : Bool := match want with | true => b | false => !b
/-- Whether a guard lets by, as a Bool of the values. -/
def gB (l : Fr) : Nat → Option (Nat × Bool) → Option Bool
  | _, none => some true
  | 0, some _ => none
  | n + 1, some (j, want) => match getF l j with
    | .v (.bool b) => some (bwant want b)
    | .k b => some (bwant want b)
    | .v (.tuple _) => some false
    | .g j' w' (.bool b) => match gB l n (some (j', w')) with
      | some c => some (c && bwant want b)
      | none => none
    | _ => none
/-- A guard that is known not to let by. -/
def deadB (l : Fr) : Nat → Option (Nat × Bool) → Bool
  | _, none => false
  | 0, some _ => false
  | n + 1, some (j, want) => match getF l j with
    | .k b => !bwant want b
    | .v (.tuple _) => true
    | .g j' w' _ => deadB l n (some (j', w'))
    | _ => false
def memCh (j : Nat) (w : Bool) : List (Nat × Bool) → Bool
  | [] => false
  | (i, v) :: r => (i == j && v == w) || memCh j w r
def rd (l : Fr) (ch : List (Nat × Bool)) : Operand → Option Value
  | .const v => some v
  | .global g => some (.pointer (some ⟨g, 0, none⟩))
  | .func f => some (.func (.func f) #[] #[])
  | .tmp t => match getF l t with
    | .v x => some x
    | .k b => some (.bool b)
    | .g j w x => match memCh j w ch with | true => some x | false => none
    | .u => none
def rdV (l : Fr) (ch : List (Nat × Bool)) (x : Operand) : Value := match rd l ch x with | some v => v | none => undef
def allRd (l : Fr) (ch : List (Nat × Bool)) (xs : List Operand) : Bool := xs.all fun x => (rd l ch x).isSome
def ctxOf (ops : Array Oper) (o : Oper) : Option (Option (Nat × Bool)) :=
  match o.guard with
  | none => some none
  | some (i, want) => match (ops[i]?).bind (·.dst) with
    | some j => some (some (j, want))
    | none => none

/-- A computation that looks at nothing but the program. -/
def Sem.ev {α : Type} (P : Program) : Sem α → Option α
  | .pure a => some a
  | .program k => Sem.ev P (k P)
  | .mark _ k => Sem.ev P k
  | _ => none

theorem ev_run {α : Type} {P : Program} {s : Sem α} {a : α} (h : Sem.ev P s = some a) (w : World) : s.run P w = .ok a w := by
  induction s with
  | pure b => simp [Sem.ev] at h; simp [Sem.run, h]
  | program k ih => simp only [Sem.ev] at h; simp only [Sem.run]; exact ih _ h
  | mark m k ih => simp only [Sem.ev] at h; simp only [Sem.run]; exact ih h
  | _ => simp [Sem.ev] at h

/-! ### The relation of known slots to a frame -/
theorem getF_get {l : Fr} {t : Nat} {sv : SV} (h : getF l t = sv) (hu : sv ≠ .u) : l[t]? = some sv := by
  induction l generalizing t with
  | nil => simp [getF] at h; exact absurd h.symm hu
  | cons a r ih => cases t with
    | zero => simp [getF] at h; simp [h]
    | succ n => simp [getF] at h; simpa using ih h
theorem Rel.get {l : Fr} {tmps : Array Value} (h : Rel l tmps) (t : Nat) : (getF l t).holds tmps t := by
  by_cases hu : getF l t = .u
  · rw [hu]; trivial
  · exact h.at_ t _ (getF_get rfl hu)
theorem undef_ne_bool (b : Bool) : undef ≠ Value.bool b := by simp [undef]

/-- What a chain of guards says of a frame. -/
def Chain (tmps : Array Value) (ch : List (Nat × Bool)) : Prop := ∀ j w, (j, w) ∈ ch → tmps.getD j undef = .bool w
def Wants (tmps : Array Value) : Option (Nat × Bool) → Prop
  | none => True
  | some (j, w) => tmps.getD j undef = .bool w
theorem chain_ok {l : Fr} {tmps : Array Value} (h : Rel l tmps) : ∀ n ctx, Wants tmps ctx → Chain tmps (chain l n ctx)
  | 0, _, _ => by intro j w hm; simp [chain] at hm
  | _ + 1, none, _ => by intro j w hm; simp [chain] at hm
  | n + 1, some (j, want), hw => by
    intro i v hm
    simp only [chain, List.mem_cons] at hm
    rcases hm with hm | hm
    · cases hm; exact hw
    · split at hm
      · rename_i j' w' x hg
        have hh := h.get j
        rw [hg] at hh
        refine chain_ok h n (some (j', w')) ?_ i v hm
        simp only [Wants]
        by_cases hc : tmps.getD j' undef = .bool w'
        · exact hc
        · have := hh.2 hc
          simp only [Wants] at hw
          rw [hw] at this
          exact absurd this.symm (undef_ne_bool _)
      · simp at hm
theorem memCh_mem {j : Nat} {w : Bool} : ∀ {ch : List (Nat × Bool)}, memCh j w ch = true → (j, w) ∈ ch
  | [], h => by simp [memCh] at h
  | (i, v) :: r, h => by
    simp only [memCh, Bool.or_eq_true, Bool.and_eq_true, beq_iff_eq] at h
    rcases h with ⟨rfl, rfl⟩ | h
    · simp
    · simp [memCh_mem h]
theorem rd_ok {l : Fr} {tmps : Array Value} {ds : List Deferred} (h : Rel l tmps) {ch : List (Nat × Bool)} (hc : Chain tmps ch) {x : Operand} {v : Value} (hr : rd l ch x = some v) :
    ({ tmps, defers := ds } : Act).eval x = v := by
  cases x with
  | const c => simp [rd] at hr; simp [Act.eval, hr]
  | global g => simp [rd] at hr; simp [Act.eval, hr]
  | func f => simp [rd] at hr; simp [Act.eval, hr]
  | tmp t =>
    simp only [rd] at hr
    have hg := h.get t
    cases hs : getF l t with
    | v y => rw [hs] at hr hg; simp at hr; simp only [SV.holds] at hg; simp only [Act.eval]; rw [hg, hr]
    | k y => rw [hs] at hr hg; simp at hr; simp only [SV.holds] at hg; simp only [Act.eval]; rw [hg, hr]
    | u => rw [hs] at hr; simp at hr
    | g j w y =>
      rw [hs] at hr hg
      simp only at hr
      split at hr
      · rename_i hm
        simp at hr
        simp only [Act.eval]
        rw [hg.1 (hc j w (memCh_mem hm)), hr]
      · simp at hr
theorem rdV_ok {l : Fr} {tmps : Array Value} {ds : List Deferred} (h : Rel l tmps) {ch : List (Nat × Bool)} (hc : Chain tmps ch) {x : Operand} (hr : (rd l ch x).isSome = true) :
    ({ tmps, defers := ds } : Act).eval x = rdV l ch x := by
  cases hv : rd l ch x with
  | none => simp [hv] at hr
  | some v => simp only [rdV, hv]; exact rd_ok h hc hv
theorem gB_ok {l : Fr} {tmps : Array Value} (h : Rel l tmps) : ∀ n ctx c, gB l n ctx = some c → (c = true ↔ Wants tmps ctx)
  | _, none, c, hc => by simp [gB] at hc; subst hc; simp [Wants]
  | 0, some _, c, hc => by simp [gB] at hc
  | n + 1, some (j, want), c, hc => by
    simp only [gB] at hc
    have hg := h.get j
    split at hc
    · rename_i b hs
      rw [hs] at hg
      simp only [SV.holds] at hg
      simp at hc; subst hc
      simp only [Wants, hg]
      cases want <;> simp [bwant]
    · rename_i b hs
      rw [hs] at hg
      simp only [SV.holds] at hg
      simp at hc; subst hc
      simp only [Wants, hg]
      cases want <;> simp [bwant]
    · rename_i vs hs
      rw [hs] at hg
      simp only [SV.holds] at hg
      simp at hc; subst hc
      simp [Wants, hg]
    · rename_i j' w' b hs
      rw [hs] at hg
      split at hc
      · rename_i c' hc'
        have ih := gB_ok h n (some (j', w')) c' hc'
        simp at hc; subst hc
        simp only [Wants] at ih ⊢
        by_cases hw : tmps.getD j' undef = .bool w'
        · rw [hg.1 hw]
          have : c' = true := ih.2 hw
          subst this
          cases want <;> simp [bwant]
        · rw [hg.2 hw]
          have : c' = false := by cases c' with | true => exact absurd (ih.1 rfl) hw | false => rfl
          subst this
          simp [undef]
      · simp at hc
    · simp at hc

theorem deadB_ok {l : Fr} {tmps : Array Value} (h : Rel l tmps) : ∀ n ctx, deadB l n ctx = true → ¬ Wants tmps ctx
  | _, none, hd => by simp [deadB] at hd
  | 0, some _, hd => by simp [deadB] at hd
  | n + 1, some (j, want), hd => by
    simp only [deadB] at hd
    have hg := h.get j
    split at hd
    · rename_i b hs
      rw [hs] at hg
      simp only [SV.holds] at hg
      simp only [Wants, hg]
      cases want <;> cases b <;> simp_all [bwant]
    · rename_i vs hs
      rw [hs] at hg
      simp only [SV.holds] at hg
      simp [Wants, hg]
    · rename_i j' w' x hs
      rw [hs] at hg
      have ih := deadB_ok h n (some (j', w')) hd
      simp only [Wants] at ih ⊢
      rw [hg.2 ih]
      simp [undef]
    · simp at hd

theorem kill_length (d : Nat) : ∀ l : Fr, (kill d l).length = l.length
  | [] => rfl
  | .g j w x :: r => by simp [kill, kill_length d r]
  | .v x :: r => by simp [kill, kill_length d r]
  | .k b :: r => by simp [kill, kill_length d r]
  | .u :: r => by simp [kill, kill_length d r]
theorem setF_length : ∀ (l : Fr) (n : Nat) (s : SV), (setF l n s).length = l.length
  | [], _, _ => rfl
  | _ :: r, 0, s => rfl
  | _ :: r, n + 1, s => by simp [setF, setF_length r n s]
theorem setF_get : ∀ (l : Fr) (n : Nat) (s : SV) (t : Nat), (setF l n s)[t]? = if t = n then (l[t]?).map fun _ => s else l[t]?
  | [], n, s, t => by simp [setF]
  | x :: r, 0, s, t => by cases t <;> simp [setF]
  | x :: r, n + 1, s, t => by
    cases t with
    | zero => simp [setF]
    | succ t => simp [setF, setF_get r n s t]
theorem kill_get (d : Nat) : ∀ (l : Fr) (t : Nat) (sv : SV), (kill d l)[t]? = some sv → sv = .u ∨ (l[t]? = some sv ∧ ∀ j w x, sv = .g j w x → j ≠ d)
  | [], t, sv, h => by simp [kill] at h
  | .v x :: r, 0, sv, h => by simp [kill] at h; subst h; right; simp
  | .k b :: r, 0, sv, h => by simp [kill] at h; subst h; right; simp
  | .u :: r, 0, sv, h => by simp [kill] at h; subst h; left; rfl
  | .g j w x :: r, 0, sv, h => by
    simp only [kill, List.getElem?_cons_zero, Option.some.injEq] at h
    cases hj : j == d with
    | true => rw [hj] at h; left; exact h.symm
    | false =>
      rw [hj] at h
      subst h
      right
      refine ⟨by simp, fun j' w' x' e => ?_⟩
      cases e
      simpa using hj
  | .v x :: r, t + 1, sv, h => by simp [kill] at h; simpa using kill_get d r t sv h
  | .k b :: r, t + 1, sv, h => by simp [kill] at h; simpa using kill_get d r t sv h
  | .u :: r, t + 1, sv, h => by simp [kill] at h; simpa using kill_get d r t sv h
  | .g j w x :: r, t + 1, sv, h => by simp [kill] at h; simpa using kill_get d r t sv h
theorem getD_set_ne {tmps : Array Value} {d t : Nat} (v : Value) (h : t ≠ d) : (tmps.setIfInBounds d v).getD t undef = tmps.getD t undef := by
  simp [Array.getElem?_setIfInBounds_ne (Ne.symm h)]
theorem Rel.put {l : Fr} {tmps : Array Value} (h : Rel l tmps) (d : Nat) (v : Value) (sv : SV) (hs : d < l.length → sv.holds (tmps.setIfInBounds d v) d) : Rel (putF l (some d) sv) (tmps.setIfInBounds d v) := by
  refine ⟨by simp [putF, setF_length, kill_length, h.size], fun t s ht => ?_⟩
  simp only [putF, setF_get] at ht
  split at ht
  · rename_i hd
    subst hd
    have hlt : t < l.length := by
      rcases Nat.lt_or_ge t (kill t l).length with h' | h'
      · rwa [kill_length] at h'
      · simp [List.getElem?_eq_none h'] at ht
    cases hk : (kill t l)[t]? with
    | none => simp [hk] at ht
    | some y => simp [hk] at ht; subst ht; exact hs hlt
  · rename_i hd
    rcases kill_get d l t s ht with rfl | ⟨hl, hne⟩
    · trivial
    · have hh := h.at_ t s hl
      cases s with
      | u => trivial
      | v x => simp only [SV.holds] at hh ⊢; rw [getD_set_ne v hd]; exact hh
      | k b => simp only [SV.holds] at hh ⊢; rw [getD_set_ne v hd]; exact hh
      | g j w x =>
        have hj := hne j w x rfl
        simp only [SV.holds] at hh ⊢
        rw [getD_set_ne v hd, getD_set_ne v hj]
        exact hh
theorem getD_set_eq {tmps : Array Value} {d : Nat} (v : Value) (h : d < tmps.size) : (tmps.setIfInBounds d v).getD d undef = v := by
  simp [h]
/-- The slot of an operation behind it: its value where the guard lets by, undef where not. -/
theorem Rel.fin {l : Fr} {tmps : Array Value} (h : Rel l tmps) {ctx : Option (Nat × Bool)} {dst : Option Tmp} {x v : Value} (hy : Wants tmps ctx → v = x) (hn : ¬ Wants tmps ctx → v = undef) :
    Rel (putF l dst (finS ctx dst x)) (({ tmps, defers := [] } : Act).put dst v).tmps := by
  cases dst with
  | none => exact h
  | some d =>
    refine h.put d v _ (fun hd => ?_)
    have hd' : d < tmps.size := by rw [h.size]; exact hd
    cases ctx with
    | none => simp only [finS, SV.holds]; rw [getD_set_eq v hd']; exact hy trivial
    | some jw =>
      obtain ⟨j, want⟩ := jw
      simp only [finS]
      cases hj : (some d == some j) with
      | true => trivial
      | false =>
        have hne : j ≠ d := by intro e; subst e; simp at hj
        simp only [SV.holds]
        rw [getD_set_eq v hd', getD_set_ne v hne]
        exact ⟨hy, hn⟩
theorem put_act (tmps : Array Value) (dst : Option Tmp) (v : Value) : ({ tmps, defers := [] } : Act).put dst v = { tmps := (({ tmps, defers := [] } : Act).put dst v).tmps, defers := [] } := by
  cases dst <;> rfl
theorem wanted_ok {ops : Array Oper} {o : Oper} {tmps : Array Value} {ctx : Option (Nat × Bool)} (hc : ctxOf ops o = some ctx) : Region.wanted o (yielded ops tmps) = true ↔ Wants tmps ctx := by
  unfold ctxOf at hc
  unfold Region.wanted
  cases hg : o.guard with
  | none => simp [hg] at hc; subst hc; simp [Wants]
  | some iw =>
    obtain ⟨i, want⟩ := iw
    simp only [hg] at hc
    cases hd : (ops[i]?).bind (·.dst) with
    | none => simp [hd] at hc
    | some j =>
      simp [hd] at hc; subst hc
      simp only [Wants, yielded, hd, Option.bind_some]
      cases ht : tmps[j]? with
      | none => simp [ht, undef]
      | some y => cases y <;> simp [ht]

end Go.Proofs.YtcpjajjocmpkjaaDoor
