/- The symbolic evaluator, second part: operations that leave the world as it is. Generic: no program, no condition. -/
import Derived.Test.YtcpjajjocmpkjaaDoorEng
namespace Go.Proofs.YtcpjajjocmpkjaaDoor
open Go.RowKit

/-- The kinds of cells. -/
inductive Ck where
  | int (k : IntKind)
  | bool
  | str
  | ptr
  | slice
  | map
  | any
  | arr (n : Nat) (k : IntKind)
  | arrB (n : Nat)

structure Env where
  P : Program
  loops : List (Nat × List (Nat × Ck))
  pur : FuncId → List Value → Option (Option Prop × Value)
  tails : List (Nat × Nat)
  joins : List (Nat × List (Nat × Ck)) := []
  boxes : List (Nat × Unit) := []

def PurOK (E : Env) : Prop := ∀ f args p v, E.pur f args = some (p, v) → p.getD True → (∀ w, Calls E.P f args.toArray w fun e w' => e = .returned v ∧ w' = w) ∧
  ∃ fn, E.P.funcs[f]? = some fn ∧ (fn.name == "runtime.NumGoroutine") = false ∧ fn.body.isNone = false

def appO : Option (List Ck) → Option (List Ck) → Option (List Ck)
  | some a, some b => some (a ++ b)
  | _, _ => none
/-- The cells of a type. -/
def shapeOf (P : Program) : Nat → TypeId → Option (List Ck)
  | 0, _ => none
  | d + 1, t => match P.underlying t with
    | some (.int k) => some [.int k]
    | some .bool => some [.bool]
    | some .string => some [.str]
    | some (.pointer _) => some [.ptr]
    | some (.slice _) => some [.slice]
    | some (.map _ _) => some [.map]
    | some (.interface _) => some [.any]
    | some (.func _ _ _) => some [.any]
    | some (.array n e) => match P.underlying e with
      | some (.int k) => some [.arr n k]
      | some .bool => some [.arrB n]
      | _ => none
    | some (.struct fs) => fs.toList.foldr (fun f acc => appO (shapeOf P d f.type) acc) (some [])
    | _ => none
def arrI (k : IntKind) (f : Nat → Int) : Nat → Nat → List Value
  | 0, _ => []
  | n + 1, i => .int k (f i) :: arrI k f n (i + 1)
def arrBo (f : Nat → Bool) : Nat → Nat → List Value
  | 0, _ => []
  | n + 1, i => .bool (f i) :: arrBo f n (i + 1)
/-- There are values of these kinds. -/
def exT : List Ck → (List Value → Prop) → Prop
  | [], F => F []
  | .int k :: r, F => ∃ x : Int, exT r fun cs => F (.int k x :: cs)
  | .bool :: r, F => ∃ x : Bool, exT r fun cs => F (.bool x :: cs)
  | .str :: r, F => ∃ x : ByteArray, exT r fun cs => F (.string x :: cs)
  | .ptr :: r, F => ∃ x : Option Addr, exT r fun cs => F (.pointer x :: cs)
  | .slice :: r, F => ∃ (p : Option Addr) (n c : Nat), exT r fun cs => F (.slice p n c :: cs)
  | .map :: r, F => ∃ x : Option Nat, exT r fun cs => F (.map x :: cs)
  | .any :: r, F => ∃ x : Value, exT r fun cs => F (x :: cs)
  | .arr n k :: r, F => ∃ f : Nat → Int, exT r fun cs => F (arrI k f n 0 ++ cs)
  | .arrB n :: r, F => ∃ f : Nat → Bool, exT r fun cs => F (arrBo f n 0 ++ cs)
theorem exT_ex : ∀ (ck : List Ck) (F : List Value → Prop), exT ck F → ∃ cs, F cs
  | [], _, h => ⟨[], h⟩
  | .int _ :: r, _, ⟨_, h⟩ => let ⟨_, h'⟩ := exT_ex r _ h; ⟨_, h'⟩
  | .bool :: r, _, ⟨_, h⟩ => let ⟨_, h'⟩ := exT_ex r _ h; ⟨_, h'⟩
  | .str :: r, _, ⟨_, h⟩ => let ⟨_, h'⟩ := exT_ex r _ h; ⟨_, h'⟩
  | .ptr :: r, _, ⟨_, h⟩ => let ⟨_, h'⟩ := exT_ex r _ h; ⟨_, h'⟩
  | .slice :: r, _, ⟨_, _, _, h⟩ => let ⟨_, h'⟩ := exT_ex r _ h; ⟨_, h'⟩
  | .map :: r, _, ⟨_, h⟩ => let ⟨_, h'⟩ := exT_ex r _ h; ⟨_, h'⟩
  | .any :: r, _, ⟨_, h⟩ => let ⟨_, h'⟩ := exT_ex r _ h; ⟨_, h'⟩
  | .arr _ _ :: r, _, ⟨_, h⟩ => let ⟨_, h'⟩ := exT_ex r _ h; ⟨_, h'⟩
  | .arrB _ :: r, _, ⟨_, h⟩ => let ⟨_, h'⟩ := exT_ex r _ h; ⟨_, h'⟩

/-- Cells that lie one behind the other. -/
def At (w : World) (b : Nat) : Nat → List Value → Prop
  | _, [] => True
  | o, [v] => w.cell? ⟨b, o, none⟩ = some v
  | o, v :: x :: r => w.cell? ⟨b, o, none⟩ = some v ∧ At w b (o + 1) (x :: r)
theorem At_get {w : World} {b : Nat} : ∀ (cs : List Value) (o : Nat), At w b o cs → ∀ j v, cs[j]? = some v → w.cell? ⟨b, o + j, none⟩ = some v
  | [], _, _, j, v, hj => by simp at hj
  | [x], o, h, 0, v, hj => by simp at hj; subst hj; exact h
  | [x], o, h, j + 1, v, hj => by simp at hj
  | x :: y :: r, o, h, 0, v, hj => by simp at hj; subst hj; exact h.1
  | x :: y :: r, o, h, j + 1, v, hj => by
    have := At_get (y :: r) (o + 1) h.2 j v (by simpa using hj)
    rw [show o + (j + 1) = o + 1 + j by omega]; exact this

/-- Cells that lie one behind the other, as one word. -/
structure AtL (w : World) (b o : Nat) (cs : List Value) : Prop where
  h : At w b o cs
def AtF (w : World) (b o : Nat) (cs : List Value) : Prop := match cs with
  | [] => True
  | [v] => w.cell? ⟨b, o, none⟩ = some v
  | v :: x :: r => AtL w b o (v :: x :: r)
theorem AtF_at {w : World} {b o : Nat} {cs : List Value} (h : AtF w b o cs) : At w b o cs := by
  match cs, h with
  | [], _ => trivial
  | [v], h => exact h
  | v :: x :: r, h => exact h.h
/-- Whether a type's values are aggregates, and how many cells they have. -/
def ldK (P : Program) (t : TypeId) : Option (Bool × Nat) :=
  match P.underlying t with
  | none => none
  | some (.struct _) => (P.info? t).map fun i => (true, i.size)
  | some (.array _ _) => (P.info? t).map fun i => (true, i.size)
  | some _ => some (false, 1)
def toV (agg : Bool) (cs : List Value) : Value :=
  match agg with
  | true => .agg cs.toArray
  | false => match cs with | [v] => v | _ => undef
theorem ldK_agg {P : Program} {t : TypeId} {agg : Bool} {n : Nat} (hk : ldK P t = some (agg, n)) (w : World) : (isAgg t).run P w = .ok agg w ∧ (agg = true → (sizeOf t).run P w = .ok n w) ∧ (agg = false → n = 1) := by
  unfold ldK at hk
  cases hu : P.underlying t with
  | none => simp [hu] at hk
  | some d =>
    have hU : (underlying t).run P w = .ok d w := by simp [underlying, program, Sem.run, hu, bind, Sem.bind, pure]
    cases d
    case struct fs =>
      simp only [hu] at hk
      cases hi : P.info? t with
      | none => simp [hi] at hk
      | some i =>
        simp [hi] at hk
        obtain ⟨rfl, rfl⟩ := hk
        exact ⟨by simp [isAgg, hU], fun _ => by simp [sizeOf, typeInfo, program, Sem.run, bind, Sem.bind, pure, hi], fun h => by cases h⟩
    case array m e =>
      simp only [hu] at hk
      cases hi : P.info? t with
      | none => simp [hi] at hk
      | some i =>
        simp [hi] at hk
        obtain ⟨rfl, rfl⟩ := hk
        exact ⟨by simp [isAgg, hU], fun _ => by simp [sizeOf, typeInfo, program, Sem.run, bind, Sem.bind, pure, hi], fun h => by cases h⟩
    all_goals
      simp only [hu, Option.some.injEq, Prod.mk.injEq] at hk
      obtain ⟨rfl, rfl⟩ := hk
      exact ⟨by simp [isAgg, hU], (fun h => by cases h), fun _ => rfl⟩
theorem run_loadVar' {P : Program} {w : World} {t : TypeId} {b o : Nat} {cs : List Value} {agg : Bool} {n : Nat} (hk : ldK P t = some (agg, n)) (hn : (cs.length == n) = true) (h : At w b o cs) :
    (loadVar t ⟨b, o, none⟩).run P w = .ok (toV agg cs) w := by
  have hn' : cs.length = n := by simpa using hn
  have hcell : ∀ j v, cs[j]? = some v → w.cell? ((⟨b, o, none⟩ : Addr).add j) = some v := fun j v hj => by
    have := At_get cs o h j v hj
    unfold Addr.add
    split
    · rename_i h0; subst h0; simpa using this
    · exact this
  obtain ⟨h1, h2, h3⟩ := ldK_agg hk w
  unfold loadVar
  rw [Sem.run_bind, h1]
  simp only [Result.andThen_ok]
  cases agg with
  | true =>
    have hl := run_loadCells_list (P := P) (w := w) ⟨b, o, none⟩ cs hcell
    simp [h2 rfl, ← hn', hl, toV]
  | false =>
    have h1' := h3 rfl
    subst h1'
    match cs, hn' with
    | [v], _ =>
      have := hcell 0 v rfl
      simp only [Addr.add, if_true] at this
      simp [Go.load, Sem.run, this, toV]
theorem run_loadAt {P : Program} {w : World} {t : TypeId} {b o : Nat} {cs : List Value} {agg : Bool} {n : Nat} (hk : ldK P t = some (agg, n)) (hn : (cs.length == n) = true) (h : At w b o cs) :
    (Instr.loadAt t (.pointer (some ⟨b, o, none⟩))).run P w = .ok (toV agg cs) w := by
  have := run_loadVar' hk hn h
  simp [Instr.loadAt, Instr.sureAddr, this]

/-- The value of a choice: 'c && x' and 'c || x'. -/
def pickV (l : Fr) (ch : List (Nat × Bool)) (c a b : Operand) : Option Value :=
  match rd l ch c with
  | some (.bool q) =>
    match c with
    | .tmp ct =>
      (match b with
      | .const (.bool false) =>
        (match rd l ((ct, true) :: ch) a with
        | some (.bool y) => some (.bool (q && y))
        | _ => (match q with | false => some (.bool false) | true => none))
      | _ => (match a with
        | .const (.bool true) =>
          (match rd l ((ct, false) :: ch) b with
          | some (.bool y) => some (.bool (q || y))
          | _ => (match q with | true => some (.bool true) | false => none))
        | _ => none))
    | _ => none
  | _ => none
theorem pickV_ok {l : Fr} {tmps : Array Value} {ds : List Deferred} (h : Rel l tmps) {ch : List (Nat × Bool)} (hc : Chain tmps ch) {c a b : Operand} {v : Value} (hv : pickV l ch c a b = some v) (P : Program) (w : World) (dst : Option Tmp) (ty : TypeId) (pos : String) (aft : Array Edge) (gd : Option (Nat × Bool)) :
    (execOp ({ tmps, defers := ds } : Act).eval ⟨dst, .pick c a b, ty, pos, aft, gd⟩).run P w = .ok (.value v) w := by
  unfold pickV at hv
  split at hv
  · rename_i q hq
    have eq := rd_ok (ds := ds) h hc hq
    split at hv
    · rename_i ct
      have ht : tmps.getD ct undef = .bool q := eq
      have hcc : ∀ qq, q = qq → Chain tmps ((ct, qq) :: ch) := fun qq e j w hm => by
        rcases List.mem_cons.1 hm with hm | hm
        · cases hm; rw [ht, e]
        · exact hc j w hm
      have run : ∀ y, (if q = true then ({ tmps, defers := ds } : Act).eval a else ({ tmps, defers := ds } : Act).eval b) = y → (execOp ({ tmps, defers := ds } : Act).eval ⟨dst, .pick (.tmp ct) a b, ty, pos, aft, gd⟩).run P w = .ok (.value y) w := by
        intro y hy
        simp only [execOp, eq, asBool]
        simp [hy]
      split at hv
      · split at hv
        · rename_i y hy
          simp at hv; subst hv
          apply run
          cases q with
          | true => simp [rd_ok (ds := ds) h (hcc true rfl) hy]
          | false => simp [Act.eval]
        · split at hv
          · simp at hv; subst hv; apply run; simp [Act.eval]
          · simp at hv
      · split at hv
        · split at hv
          · rename_i y hy
            simp at hv; subst hv
            apply run
            cases q with
            | true => simp [Act.eval]
            | false => simp [rd_ok (ds := ds) h (hcc false rfl) hy]
          · split at hv
            · simp at hv; subst hv; apply run; simp [Act.eval]
            · simp at hv
        · simp at hv
    · simp at hv
  · simp at hv

end Go.Proofs.YtcpjajjocmpkjaaDoor
