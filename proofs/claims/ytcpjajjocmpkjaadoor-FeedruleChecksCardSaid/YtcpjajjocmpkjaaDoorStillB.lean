/- The symbolic evaluator, third part: the formula of an operation that leaves the world as it is, and its soundness. Generic: no program, no condition. -/
import Derived.Test.YtcpjajjocmpkjaaDoorStill
namespace Go.Proofs.YtcpjajjocmpkjaaDoor
open Go.RowKit

def idx (off : Nat) (i : Int) (sz : Nat) : Nat := match sz with | 1 => off + i.toNat | s => off + i.toNat * s
def slA (p : Option Addr) (c l sz : Nat) : Option Addr := if c = l then p else p.map (·.add (l * sz))
def szOf (P : Program) (t : TypeId) : Option Nat := (P.info? t).map (·.size)
def rdO (l : Fr) (ch : List (Nat × Bool)) : Option Operand → Option (Option Value)
  | none => some none
  | some x => match rd l ch x with | some v => some (some v) | none => none
def evRoute (E : Env) (l : Fr) (ch : List (Nat × Bool)) (o : Oper) (fin : Value → Prop) : Prop :=
  match allRd l ch o.op.operands.toList with
  | true => (match Sem.ev E.P (execOp (rdV l ch) o) with | some (.value v) => fin v | _ => False)
  | false => False
def sliceF (E : Env) (g : Bool) (t : TypeId) (x : Value) (lo hi : Option Value) (fin : Value → Prop) : Prop :=
  match E.P.underlying t with
  | some .string => (match x with
    | .string s => (match lo, hi with
      | none, none => fin (.string (s.extract 0 s.size))
      | some (.int _ i), none => gimp g (0 ≤ i ∧ i ≤ s.size) ∧ fin (.string (s.extract i.toNat s.size))
      | none, some (.int _ j) => gimp g (0 ≤ j ∧ j ≤ s.size) ∧ fin (.string (s.extract 0 j.toNat))
      | some (.int _ i), some (.int _ j) => gimp g (0 ≤ i ∧ i ≤ j ∧ j ≤ s.size) ∧ fin (.string (s.extract i.toNat j.toNat))
      | _, _ => False)
    | _ => False)
  | some (.slice e) => (match x, szOf E.P e with
    | .slice p n c, some sz => (match lo, hi with
      | some (.int _ i), none => gimp g (0 ≤ i ∧ i ≤ n) ∧ fin (.slice (slA p c i.toNat sz) (n - i.toNat) (c - i.toNat))
      | none, some (.int _ j) => gimp g (0 ≤ j ∧ j ≤ c) ∧ fin (.slice p j.toNat c)
      | some (.int _ i), some (.int _ j) => gimp g (0 ≤ i ∧ i ≤ j ∧ j ≤ c) ∧ fin (.slice (slA p c i.toNat sz) (j.toNat - i.toNat) (c - i.toNat))
      | _, _ => False)
    | _, _ => False)
  | some (.array n e) => (match x, lo, hi, szOf E.P e with
    | .pointer p, none, none, some _ => nn g p fun b o => fin (.slice (some ⟨b, o, none⟩) n n)
    | _, _, _, _ => False)
  | _ => False
def loadF (E : Env) (g : Bool) (t : TypeId) (p : Option Addr) (A : (World → Prop) → Prop) (fin : Value → Prop) : Prop :=
  nn g p fun b off => (match ldK E.P t, shapeOf E.P 8 t with
    | some (agg, n), some ck => exT ck fun cs => (match cs.length == n with | true => gimp g (A fun w => AtF w b off cs) ∧ fin (toV agg cs) | false => False)
    | _, _ => False)
def indexAddrF (E : Env) (g : Bool) (t : TypeId) (x : Value) (i : Int) (fin : Value → Prop) : Prop :=
  match E.P.underlying t with
  | some (.slice e) => (match x, szOf E.P e with
    | .slice p n _, some sz => nn g p fun b off => gimp g (0 ≤ i ∧ i < n) ∧ fin (.pointer (some ⟨b, idx off i sz, none⟩))
    | _, _ => False)
  | some (.array n e) => (match x, szOf E.P e with
    | .pointer p, some sz => nn g p fun b off => gimp g (0 ≤ i ∧ i < n) ∧ fin (.pointer (some ⟨b, idx off i sz, none⟩))
    | _, _ => False)
  | _ => False
def byteCells (s : ByteArray) : List Value := s.data.toList.map fun b => .int .u8 b.toNat
/-- Bytes that lie one behind the other; of no byte nothing is asked. -/
structure BytesP (w : World) (p : Option Addr) (s : ByteArray) : Prop where
  h : s.size = 0 ∨ ∃ b o, p = some ⟨b, o, none⟩ ∧ At w b o (byteCells s)
/-- 'x == nil', 'x != nil' of a pointer or a slice. -/
def nilCmp (E : Env) (eq : Bool) (t : TypeId) (x y : Value) : Option Value :=
  match E.P.underlying t with
  | some (.pointer _) => (match x, y with | .pointer p, .pointer none => some (.bool (match eq with | true => p.isNone | false => !p.isNone)) | _, _ => none)
  | some (.slice _) => (match x, y with | .slice p _ _, .slice none _ _ => some (.bool (match eq with | true => p.isNone | false => !p.isNone)) | _, _ => none)
  | some (.map _ _) => (match x, y with | .map p, .map none => some (.bool (match eq with | true => p.isNone | false => !p.isNone)) | _, _ => none)
  | _ => none
def isNilConst : Operand → Bool
  | .const (.pointer none) => true
  | .const (.slice none _ _) => true
  | .const (.map none) => true
  | _ => false
/-- Whether a type's values are aggregates. -/
def isAggT (P : Program) (t : TypeId) : Bool := match P.underlying t with
  | some (.struct _) => true
  | some (.array _ _) => true
  | _ => false
/-- Whether two aggregates are equal. -/
structure EqP (P : Program) (t : TypeId) (x y : Value) (r : Bool) : Prop where
  h : ∀ w, (Op.equal t x y).run P w = .ok r w
  ok : P.eqGuardType P.depth t = false
  agg : ∃ xs ys, x = .agg xs ∧ y = .agg ys
/-- What a look into a map yields. -/
structure LookP (P : Program) (t : TypeId) (m key : Value) (ok : Bool) (v : Value) (w : World) : Prop where
  h : (Instr.lookup t m key ok).run P w = .ok v w
/-- What a pure function asks where its guard lets by. -/
def pureF (g : Bool) (p : Option Prop) (F : Prop) : Prop := match p with | some q => gimp g q ∧ F | none => F
theorem pureF_ok {g : Bool} {p : Option Prop} {F : Prop} (h : pureF g p F) : (gimp g (p.getD True)) ∧ F := by
  cases p with
  | none => exact ⟨by cases g <;> trivial, h⟩
  | some q => exact h
/-- The formula of an operation that leaves the world as it is: what it yields where its guard lets by. -/
def stillF (E : Env) (l : Fr) (ch : List (Nat × Bool)) (g : Bool) (o : Oper) (A : (World → Prop) → Prop) (fin : Value → Prop) : Prop :=
  match o.op with
  | .pick c a b => (match pickV l ch c a b with | some v => fin v | none => False)
  | .load t x => (match rd l ch x with | some (.pointer p) => loadF E g t p A fin | _ => False)
  | .nilCheck x => (match rd l ch x with
    | some (.pointer p) => nn g p fun b off => fin (.pointer (some ⟨b, off, none⟩))
    | some (.func (.func f) a b) => fin (.func (.func f) a b)
    | _ => False)
  | .index t x ix => (match E.P.underlying t, rd l ch x, rd l ch ix with
    | some .string, some (.string s), some (.int _ i) => gimp g (0 ≤ i ∧ i < s.size) ∧ fin (.int .u8 (at8 s i.toNat))
    | _, _, _ => False)
  | .indexAddr t x ix => (match rd l ch x, rd l ch ix with
    | some v, some (.int _ i) => indexAddrF E g t v i fin
    | _, _ => False)
  | .slice t x lo hi none => (match rd l ch x, rdO l ch lo, rdO l ch hi with
    | some v, some lo', some hi' => sliceF E g t v lo' hi' fin
    | _, _, _ => False)
  | .slice _ _ _ _ (some _) => False
  | .binOp .eql t x y _ => (match isNilConst y, isAggT E.P t with
    | true, _ => (match rd l ch x, rd l ch y with
      | some a, some b => (match nilCmp E true t a b with | some v => fin v | none => False)
      | _, _ => False)
    | false, true => (match rd l ch x, rd l ch y with
      | some a, some b => ∃ r : Bool, gimp g (EqP E.P t a b r) ∧ fin (.bool r)
      | _, _ => False)
    | false, false => evRoute E l ch o fin)
  | .binOp .neq t x y _ => (match isNilConst y, isAggT E.P t with
    | true, _ => (match rd l ch x, rd l ch y with
      | some a, some b => (match nilCmp E false t a b with | some v => fin v | none => False)
      | _, _ => False)
    | false, true => (match rd l ch x, rd l ch y with
      | some a, some b => ∃ r : Bool, gimp g (EqP E.P t a b r) ∧ fin (.bool (!r))
      | _, _ => False)
    | false, false => evRoute E l ch o fin)
  | .binOp .add _ x y _ => (match rd l ch x, rd l ch y with
    | some (.string a), some (.string b) => gimp g (((a.size + b.size : Nat) : Int) ≤ 9223372036854775807) ∧ fin (.string (a ++ b))
    | _, _ => evRoute E l ch o fin)
  | .convert src dst x => (match E.P.underlying src, E.P.underlying dst with
    | some (.slice e), some .string => (match E.P.underlying e, rd l ch x with
      | some (.int .u8), some (.slice p n _) => ∃ s : ByteArray, gimp g (s.size = n ∧ A fun w => BytesP w p s) ∧ fin (.string s)
      | _, _ => False)
    | _, _ => evRoute E l ch o fin)
  | .call { callee := .value (.func f), args, .. } => (match allRd l ch args.toList with
    | true => (match E.pur f (args.toList.map (rdV l ch)) with | some (p, v) => pureF g p (fin v) | none => False)
    | false => False)
  | .lookup t x ix ok => (match E.P.underlying t, rd l ch x, rd l ch ix with
    | some (.map _ e), some m, some key => (match ldK E.P e, shapeOf E.P 8 e with
      | some (agg, _), some ck => exT ck fun cs => (match ok with
        | false => gimp g (A fun w => LookP E.P t m key false (toV agg cs) w) ∧ fin (toV agg cs)
        | true => ∃ b : Bool, gimp g (A fun w => LookP E.P t m key true (.tuple #[toV agg cs, .bool b]) w) ∧ fin (.tuple #[toV agg cs, .bool b]))
      | _, _ => False)
    | _, _, _ => False)
  | .select _ _ => False
  | _ => evRoute E l ch o fin

/-- A call of a named function. -/
def isNamedCall : Op → Bool
  | .call { callee := .value (.func _), .. } => true
  | _ => false
def YieldsV (P : Program) (o : Oper) (a : Act) (w : World) (v : Value) : Prop :=
  (execOp a.eval o).run P w = .ok (.value v) w ∨ (isNamedCall o.op = true ∧ ∃ f args, (execOp a.eval o).run P w = .ok (.enter f args) w ∧ Calls P f args w fun e w' => e = .returned v ∧ w' = w)

theorem gimp_true {g : Bool} {X : Prop} (h : gimp g X) (hg : g = true) : X := by subst hg; exact h
theorem nn_ex {g : Bool} {p : Option Addr} {K : Nat → Nat → Prop} (h : nn g p K) : ∃ b o, K b o ∧ (g = true → p = some ⟨b, o, none⟩) := by
  unfold nn at h
  split at h
  · rename_i b o; exact ⟨b, o, h, fun _ => rfl⟩
  · exact ⟨0, 0, h.2, fun hg => by rw [h.1] at hg; cases hg⟩

section
variable {E : Env} {l : Fr} {tmps : Array Value} {ds : List Deferred} {ch : List (Nat × Bool)} {w : World}

theorem evRoute_ok (h : Rel l tmps) (hc : Chain tmps ch) {o : Oper} (hs : ∀ cs b, o.op ≠ .select cs b) {fin : Value → Prop} (hf : evRoute E l ch o fin) : ∃ v, fin v ∧ ∀ w, (execOp ({ tmps, defers := ds } : Act).eval o).run E.P w = .ok (.value v) w := by
  unfold evRoute at hf
  cases ha : allRd l ch o.op.operands.toList with
  | false => rw [ha] at hf; exact hf.elim
  | true =>
    rw [ha] at hf
    simp only at hf
    have hcg : execOp ({ tmps, defers := ds } : Act).eval o = execOp (rdV l ch) o := execOp_congr o hs (fun x hx => by
      unfold allRd at ha
      exact rdV_ok h hc (List.all_eq_true.1 ha x (by simpa using hx)))
    split at hf
    · rename_i v hv
      exact ⟨v, hf, fun w => by rw [hcg]; exact ev_run hv w⟩
    · exact hf.elim
theorem evRoute_any {o : Oper} {fin : Value → Prop} (hf : evRoute E l ch o fin) : ∃ v, fin v := by
  unfold evRoute at hf
  split at hf
  · split at hf
    · exact ⟨_, hf⟩
    · exact hf.elim
  · exact hf.elim
theorem evRoute_gen (h : Rel l tmps) {g : Bool} (hg : g = true → Chain tmps ch) {o : Oper} (hs : ∀ cs b, o.op ≠ .select cs b) {A : (World → Prop) → Prop} {fin : Value → Prop} (hf : evRoute E l ch o fin) : ∃ v, fin v ∧ (g = true → ∀ w, (∀ φ : World → Prop, A φ → φ w) → YieldsV E.P o { tmps, defers := ds } w v) := by
  cases g with
  | true => obtain ⟨v, h1, h2⟩ := evRoute_ok (ds := ds) h (hg rfl) hs hf; exact ⟨v, h1, fun _ w _ => .inl (h2 w)⟩
  | false => obtain ⟨v, h1⟩ := evRoute_any hf; exact ⟨v, h1, fun e => by cases e⟩

theorem run_underlying' {P : Program} {t : TypeId} {d : TypeDesc} (h : P.underlying t = some d) : (underlying t).run P w = .ok d w := by simp [underlying, program, Sem.run, h, bind, Sem.bind, pure]
theorem run_sizeOf' {P : Program} {t : TypeId} {n : Nat} (h : szOf P t = some n) : (sizeOf t).run P w = .ok n w := by
  unfold szOf at h
  cases hi : P.info? t with
  | none => simp [hi] at h
  | some i => simp [hi] at h; simp [sizeOf, typeInfo, program, Sem.run, bind, Sem.bind, pure, hi, h]
theorem add_plain (b o n : Nat) : (⟨b, o, none⟩ : Addr).add n = ⟨b, o + n, none⟩ := by
  unfold Addr.add; split
  · rename_i h; subst h; rfl
  · rfl
theorem idx_eq (o : Nat) (i : Int) (sz : Nat) : idx o i sz = o + i.toNat * sz := by
  unfold idx; split
  · simp
  · rfl
theorem run_bound {P : Program} {k : IntKind} {i : Int} {y : Nat} {code : BoundsCode} (h0 : 0 ≤ i) (h1 : i ≤ y) : (Instr.sliceBound (.int k i) y code).run P w = .ok i.toNat w := by
  simp [Instr.sliceBound, asIntOf, h0, h1]
theorem sliceF_ok {g : Bool} {t : TypeId} {x : Value} {lo hi : Option Value} {fin : Value → Prop} (hf : sliceF E g t x lo hi fin) : ∃ v, fin v ∧ (g = true → ∀ w, (Instr.sliceAt t x lo hi none).run E.P w = .ok v w) := by
  unfold sliceF at hf
  split at hf
  · rename_i hu
    have hU := fun w => run_underlying' (w := w) hu
    split at hf
    · rename_i s
      split at hf
      · exact ⟨_, hf, fun _ w => by simp [Instr.sliceAt, Instr.slice, hU, Instr.sliceBounds]⟩
      · exact ⟨_, hf.2, fun hg w => by
          have hb := gimp_true hf.1 hg
          simp [Instr.sliceAt, Instr.slice, hU, Instr.sliceBounds, run_bound hb.1 hb.2]⟩
      · exact ⟨_, hf.2, fun hg w => by
          have hb := gimp_true hf.1 hg
          simp [Instr.sliceAt, Instr.slice, hU, Instr.sliceBounds, run_bound hb.1 hb.2]⟩
      · rename_i k i k' j
        exact ⟨_, hf.2, fun hg w => by
          have hb := gimp_true hf.1 hg
          have h1 : i ≤ (j.toNat : Int) := by omega
          simp [Instr.sliceAt, Instr.slice, hU, Instr.sliceBounds, run_bound (show 0 ≤ j by omega) hb.2.2, run_bound hb.1 h1]⟩
      · exact hf.elim
    · exact hf.elim
  · rename_i e hu
    have hU := fun w => run_underlying' (w := w) hu
    split at hf
    · rename_i p n c sz hsz
      have hS := fun w => run_sizeOf' (w := w) hsz
      split at hf
      · exact ⟨_, hf.2, fun hg w => by
          have hb := gimp_true hf.1 hg
          simp [Instr.sliceAt, Instr.slice, hU, Instr.sliceBounds, run_bound hb.1 hb.2, hS, slA]⟩
      · rename_i k j
        exact ⟨_, hf.2, fun hg w => by
          have hb := gimp_true hf.1 hg
          simp [Instr.sliceAt, Instr.slice, hU, Instr.sliceBounds, run_bound hb.1 hb.2, hS]
          cases p <;> simp [Addr.add]⟩
      · rename_i k i k' j
        exact ⟨_, hf.2, fun hg w => by
          have hb := gimp_true hf.1 hg
          have h1 : i ≤ (j.toNat : Int) := by omega
          simp [Instr.sliceAt, Instr.slice, hU, Instr.sliceBounds, run_bound (show 0 ≤ j by omega) hb.2.2, run_bound hb.1 h1, hS, slA]⟩
      · exact hf.elim
    · exact hf.elim
  · rename_i n e hu
    have hU := fun w => run_underlying' (w := w) hu
    split at hf
    · rename_i sz hsz
      have hS := fun w => run_sizeOf' (w := w) hsz
      obtain ⟨b, o, h1, h2⟩ := nn_ex hf
      refine ⟨_, h1, fun hg w => ?_⟩
      rw [h2 hg]
      simp [Instr.sliceAt, hU, Instr.sureAddr, Instr.sliceBounds, hS, Addr.add]
    · exact hf.elim
  · exact hf.elim
theorem at8_get {s : ByteArray} {i : Nat} (h : i < s.size) : s[i]? = some s[i] ∧ at8 s i = (s[i].toNat : Int) := ⟨by simp [h], by simp [at8, h]⟩
theorem run_enter {P : Program} {f : FuncId} {fn : Func} {args : Array Value} (hf : P.funcs[f]? = some fn) (hn : (fn.name == "runtime.NumGoroutine") = false) (hb : fn.body.isNone = false) : (callFunc f args).run P w = .ok (.enter f args) w := by
  have hn' : fn.name ≠ "runtime.NumGoroutine" := by simpa using hn
  have hb' : fn.body ≠ none := by intro h; simp [h] at hb
  simp [callFunc, program, Sem.run, bind, Sem.bind, pure, hf, hn', hb']
theorem run_bytesP {P : Program} {src dst e : TypeId} {p : Option Addr} {n c : Nat} {s : ByteArray} (hs : P.underlying src = some (.slice e)) (he : P.underlying e = some (.int .u8)) (hd : P.underlying dst = some .string)
    (hn : s.size = n) (h : BytesP w p s) : (convert src dst (.slice p n c)).run P w = .ok (.string s) w := by
  subst hn
  rcases h.h with h0 | ⟨b, o, rfl, hat⟩
  · have hs0 : s = ByteArray.empty := by
      cases s with
      | mk d =>
        have : d.size = 0 := h0
        have hd0 : d = #[] := by simpa using this
        subst hd0
        rfl
    cases p with
    | none => rw [hs0]; exact run_convert_bytes_nil w src e hs he _ _ dst hd
    | some a => rw [hs0]; exact run_convert_bytes_back w src dst e a c [] hs he hd (fun j hj => by simp at hj)
  · have := run_convert_bytes_back w src dst e ⟨b, o, none⟩ c s.data.toList hs he hd (fun j hj => by
      have hj' : j < s.data.size := by simpa using hj
      have := At_get (byteCells s) o hat j (.int .u8 (s.data[j].toNat : Int)) (by simp [byteCells, Array.getElem?_eq_getElem hj'])
      rw [add_plain]; simpa using this)
    have hl : s.data.toList.length = s.size := by simp
    rw [hl] at this
    simpa using this
theorem equal_ptr_nil {P : Program} {t e : TypeId} {p : Option Addr} (hu : P.underlying t = some (.pointer e)) : (Op.equal t (.pointer p) (.pointer none)).run P w = .ok p.isNone w := by
  have key : ∀ d, (Op.equalIn (d + 1) t (.pointer p) (.pointer none)).run P w = .ok p.isNone w := fun d => by
    have hU := run_underlying' (w := w) hu
    cases p <;> simp [Op.equalIn, hU]
  exact key 9999
theorem equal_slice_nil {P : Program} {t e : TypeId} {p : Option Addr} {n c m k : Nat} (hu : P.underlying t = some (.slice e)) : (Op.equal t (.slice p n c) (.slice none m k)).run P w = .ok p.isNone w := by
  have key : ∀ d, (Op.equalIn (d + 1) t (.slice p n c) (.slice none m k)).run P w = .ok p.isNone w := fun d => by
    have hU := run_underlying' (w := w) hu
    cases p <;> simp [Op.equalIn, hU]
  exact key 9999
theorem equal_map_nil {P : Program} {t k e : TypeId} {p : Option Nat} (hu : P.underlying t = some (.map k e)) : (Op.equal t (.map p) (.map none)).run P w = .ok p.isNone w := by
  have key : ∀ d, (Op.equalIn (d + 1) t (.map p) (.map none)).run P w = .ok p.isNone w := fun d => by
    have hU := run_underlying' (w := w) hu
    cases p <;> simp [Op.equalIn, hU]
  exact key 9999
theorem eqP_run {P : Program} {op : BinOp} {eq : Bool} (ho : op = .eql ∧ eq = true ∨ op = .neq ∧ eq = false) {t : TypeId} {x y : Operand} {a b : Value} {r : Bool} (hv : EqP P t a b r) :
    Sem.run P (do let z ← (do eqGuard op t x y a b; binOp op t a b); pure (Next.value z)) w = .ok (.value (.bool (match eq with | true => r | false => !r))) w := by
  obtain ⟨h, ok, xs, ys, rfl, rfl⟩ := hv
  have h1 := h w
  have hg : (eqGuard op t x y (.agg xs) (.agg ys)).run P w = .ok () w := by cases op <;> simp [eqGuard, run_program, ok]
  rcases ho with ⟨rfl, rfl⟩ | ⟨rfl, rfl⟩
  · simp only [Sem.run_bind, hg, Result.andThen_ok, binOp]; simp [h1]
  · simp only [Sem.run_bind, hg, Result.andThen_ok, binOp]; simp [h1]
theorem nilCmp_run {op : BinOp} {eq : Bool} (ho : op = .eql ∧ eq = true ∨ op = .neq ∧ eq = false) {t : TypeId} {x y : Operand} {a b v : Value} (hv : nilCmp E eq t a b = some v) :
    Sem.run E.P (do let z ← (do eqGuard op t x y a b; binOp op t a b); pure (Next.value z)) w = .ok (.value v) w := by
  unfold nilCmp at hv
  split at hv
  · rename_i e hu
    split at hv
    · rename_i p
      have hq := equal_ptr_nil (w := w) (p := p) hu
      simp at hv; subst hv
      rcases ho with ⟨rfl, rfl⟩ | ⟨rfl, rfl⟩
      · simp only [eqGuard, binOp]; simp [hq]
      · simp only [eqGuard, binOp]; simp [hq]
    · simp at hv
  · rename_i e hu
    split at hv
    · rename_i p n c m k
      have hq := equal_slice_nil (w := w) (p := p) (n := n) (c := c) (m := m) (k := k) hu
      simp at hv; subst hv
      rcases ho with ⟨rfl, rfl⟩ | ⟨rfl, rfl⟩
      · simp only [eqGuard, binOp]; simp [hq]
      · simp only [eqGuard, binOp]; simp [hq]
    · simp at hv
  · rename_i k e hu
    split at hv
    · rename_i p
      have hq := equal_map_nil (w := w) (p := p) hu
      simp at hv; subst hv
      rcases ho with ⟨rfl, rfl⟩ | ⟨rfl, rfl⟩
      · simp only [eqGuard, binOp]; simp [hq]
      · simp only [eqGuard, binOp]; simp [hq]
    · simp at hv
  · simp at hv
theorem stillF_ok (hp : PurOK E) (h : Rel l tmps) {g : Bool} (hg : g = true → Chain tmps ch) {o : Oper} {A : (World → Prop) → Prop} {fin : Value → Prop} (hf : stillF E l ch g o A fin) : ∃ v, fin v ∧ (g = true → ∀ w, (∀ φ : World → Prop, A φ → φ w) → YieldsV E.P o { tmps, defers := ds } w v) := by
  obtain ⟨dst, op, ty, pos, aft, gd⟩ := o
  unfold stillF at hf
  split at hf
  · rename_i c a b hop
    simp only at hop; subst hop
    split at hf
    · rename_i v hv
      exact ⟨v, hf, fun e w _ => .inl (pickV_ok h (hg e) hv E.P w dst ty pos aft gd)⟩
    · exact hf.elim
  · rename_i t x hop
    simp only at hop; subst hop
    split at hf
    · rename_i p hx
      unfold loadF at hf
      obtain ⟨b, o, h1, h2⟩ := nn_ex hf
      split at h1
      · rename_i agg n ck hk hs
        obtain ⟨cs, h3⟩ := exT_ex _ _ h1
        split at h3
        · rename_i hlen
          refine ⟨_, h3.2, fun e w hA => .inl ?_⟩
          have ex := rd_ok (ds := ds) h (hg e) hx
          have := run_loadAt hk hlen (AtF_at (hA _ (gimp_true h3.1 e)))
          simp only [execOp, ex, h2 e]
          simp [this]
        · exact h3.elim
      · exact h1.elim
    · exact hf.elim
  · rename_i x hop
    simp only at hop; subst hop
    split at hf
    · rename_i p hx
      obtain ⟨b, o, h1, h2⟩ := nn_ex hf
      refine ⟨_, h1, fun e w _ => .inl ?_⟩
      have ex := rd_ok (ds := ds) h (hg e) hx
      simp only [execOp, ex, h2 e]
      rfl
    · rename_i f a b hx
      refine ⟨_, hf, fun e w _ => .inl ?_⟩
      have ex := rd_ok (ds := ds) h (hg e) hx
      simp only [execOp, ex]
      rfl
    · exact hf.elim
  · rename_i t x ix hop
    simp only at hop; subst hop
    split at hf
    · rename_i s k i hu hx hi
      refine ⟨_, hf.2, fun e w _ => .inl ?_⟩
      have hb := gimp_true hf.1 e
      have ex := rd_ok (ds := ds) h (hg e) hx
      have ei := rd_ok (ds := ds) h (hg e) hi
      have hlt : i.toNat < s.size := by omega
      obtain ⟨g1, g2⟩ := at8_get hlt
      have hU := run_underlying' (w := w) hu
      simp only [execOp, ex, ei]
      simp [Instr.index, asIntOf, hU, hb.1, g1, g2]
    · exact hf.elim
  · rename_i t x ix hop
    simp only at hop; subst hop
    split at hf
    · rename_i v k i hx hi
      unfold indexAddrF at hf
      split at hf
      · rename_i e hu
        have hU := fun w => run_underlying' (w := w) hu
        split at hf
        · rename_i p n c sz hsz
          have hS := fun w => run_sizeOf' (w := w) hsz
          obtain ⟨b, o, h1, h2⟩ := nn_ex hf
          refine ⟨_, h1.2, fun e w _ => .inl ?_⟩
          have hb := gimp_true h1.1 e
          have ex := rd_ok (ds := ds) h (hg e) hx
          have ei := rd_ok (ds := ds) h (hg e) hi
          simp only [execOp, ex, ei, h2 e]
          simp [Instr.indexAt, asIntOf, hU, hb.1, hb.2, hS, add_plain, idx_eq]
        · exact hf.elim
      · rename_i n e hu
        have hU := fun w => run_underlying' (w := w) hu
        split at hf
        · rename_i p sz hsz
          have hS := fun w => run_sizeOf' (w := w) hsz
          obtain ⟨b, o, h1, h2⟩ := nn_ex hf
          refine ⟨_, h1.2, fun e w _ => .inl ?_⟩
          have hb := gimp_true h1.1 e
          have ex := rd_ok (ds := ds) h (hg e) hx
          have ei := rd_ok (ds := ds) h (hg e) hi
          simp only [execOp, ex, ei, h2 e]
          simp [Instr.indexAt, asIntOf, hU, hb.1, hb.2, hS, add_plain, idx_eq, Instr.sureAddr]
        · exact hf.elim
      · exact hf.elim
    · exact hf.elim
  · rename_i t x lo hi hop
    simp only at hop; subst hop
    split at hf
    · rename_i v lo' hi' hx hlo hhi
      obtain ⟨u, h1, h2⟩ := sliceF_ok hf
      refine ⟨u, h1, fun e w _ => .inl ?_⟩
      have ex := rd_ok (ds := ds) h (hg e) hx
      have eO : ∀ (z : Option Operand) (z' : Option Value), rdO l ch z = some z' → z.map ({ tmps, defers := ds } : Act).eval = z' := by
        intro z z' hz
        cases z with
        | none => simp [rdO] at hz; simp [hz]
        | some q =>
          simp only [rdO] at hz
          split at hz
          · rename_i q' hq; simp at hz; subst hz; simp [rd_ok (ds := ds) h (hg e) hq]
          · simp at hz
      simp only [execOp, ex, eO lo lo' hlo, eO hi hi' hhi]
      simp [h2 e w]
    · exact hf.elim
  · exact hf.elim
  · rename_i t x y yt hop
    simp only at hop; subst hop
    split at hf
    · split at hf
      · rename_i a b hx hy
        split at hf
        · rename_i v hv
          refine ⟨v, hf, fun e w _ => .inl ?_⟩
          have ex := rd_ok (ds := ds) h (hg e) hx
          have ey := rd_ok (ds := ds) h (hg e) hy
          simp only [execOp, ex, ey]
          exact nilCmp_run (.inl ⟨rfl, rfl⟩) hv
        · exact hf.elim
      · exact hf.elim
    · split at hf
      · rename_i a b hx hy
        obtain ⟨r, hr, hf⟩ := hf
        refine ⟨_, hf, fun e w _ => .inl ?_⟩
        have ex := rd_ok (ds := ds) h (hg e) hx
        have ey := rd_ok (ds := ds) h (hg e) hy
        simp only [execOp, ex, ey]
        exact eqP_run (.inl ⟨rfl, rfl⟩) (gimp_true hr e)
      · exact hf.elim
    · exact evRoute_gen h hg (by simp) hf
  · rename_i t x y yt hop
    simp only at hop; subst hop
    split at hf
    · split at hf
      · rename_i a b hx hy
        split at hf
        · rename_i v hv
          refine ⟨v, hf, fun e w _ => .inl ?_⟩
          have ex := rd_ok (ds := ds) h (hg e) hx
          have ey := rd_ok (ds := ds) h (hg e) hy
          simp only [execOp, ex, ey]
          exact nilCmp_run (.inr ⟨rfl, rfl⟩) hv
        · exact hf.elim
      · exact hf.elim
    · split at hf
      · rename_i a b hx hy
        obtain ⟨r, hr, hf⟩ := hf
        refine ⟨_, hf, fun e w _ => .inl ?_⟩
        have ex := rd_ok (ds := ds) h (hg e) hx
        have ey := rd_ok (ds := ds) h (hg e) hy
        simp only [execOp, ex, ey]
        exact eqP_run (.inr ⟨rfl, rfl⟩) (gimp_true hr e)
      · exact hf.elim
    · exact evRoute_gen h hg (by simp) hf
  · rename_i t x y yt hop
    simp only at hop; subst hop
    split at hf
    · rename_i a b hx hy
      refine ⟨_, hf.2, fun e w _ => .inl ?_⟩
      have hb := gimp_true hf.1 e
      have ex := rd_ok (ds := ds) h (hg e) hx
      have ey := rd_ok (ds := ds) h (hg e) hy
      simp only [execOp, ex, ey]
      simp [eqGuard, binOp, Op.stringOp]
      omega
    · exact evRoute_gen h hg (by simp) hf
  · rename_i src dst' x hop
    simp only at hop; subst hop
    split at hf
    · rename_i e' hs hd
      split at hf
      · rename_i p n c he hx
        obtain ⟨s, h1, h2⟩ := hf
        refine ⟨_, h2, fun e w hA => .inl ?_⟩
        have hb := gimp_true h1 e
        have ex := rd_ok (ds := ds) h (hg e) hx
        have hrun := run_bytesP (c := c) hs he hd hb.1 (hA _ hb.2)
        simp only [execOp, ex]
        simp [hrun]
      · exact hf.elim
    · exact evRoute_gen h hg (by simp) hf
  · rename_i f args at_ hop
    simp only at hop; subst hop
    split at hf
    · rename_i ha
      split at hf
      · rename_i p v hv
        have hf := pureF_ok hf
        refine ⟨v, hf.2, fun e w _ => .inr ⟨rfl, ?_⟩⟩
        obtain ⟨hc, fn, h1, h2, h3⟩ := hp f _ p v hv (gimp_true hf.1 e)
        refine ⟨f, (args.toList.map (rdV l ch)).toArray, ?_, hc w⟩
        have hargs : args.map ({ tmps, defers := ds } : Act).eval = (args.toList.map (rdV l ch)).toArray := by
          apply Array.toList_inj.1
          simp only [Array.toList_map]
          refine List.map_congr_left fun x hx => rdV_ok h (hg e) ?_
          unfold allRd at ha
          exact List.all_eq_true.1 ha x hx
        simp only [execOp, resolve, hargs, Act.eval]
        simp [Deferred.ofValue, invoke, run_enter h1 h2 h3]
      · exact hf.elim
    · exact hf.elim
  · rename_i t x ix ok hop
    simp only at hop; subst hop
    split at hf
    · rename_i k e m key ht hx hix
      split at hf
      · rename_i agg n ck hk hs
        obtain ⟨cs, hf⟩ := exT_ex _ _ hf
        split at hf
        · exact ⟨_, hf.2, fun eg w hA => .inl (by
            have := (hA _ (gimp_true hf.1 eg)).h
            simp only [execOp, rd_ok (ds := ds) h (hg eg) hx, rd_ok (ds := ds) h (hg eg) hix]
            simp [this])⟩
        · obtain ⟨b, hf⟩ := hf
          exact ⟨_, hf.2, fun eg w hA => .inl (by
            have := (hA _ (gimp_true hf.1 eg)).h
            simp only [execOp, rd_ok (ds := ds) h (hg eg) hx, rd_ok (ds := ds) h (hg eg) hix]
            simp [this])⟩
      · exact hf.elim
    · exact hf.elim
  · exact hf.elim
  · refine evRoute_gen h hg ?_ hf
    simp_all
end

end Go.Proofs.YtcpjajjocmpkjaaDoor
