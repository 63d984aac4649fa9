/- Maps in the program's memory: their entries as a list, looked up, written, struck. Generic: no program, no condition. -/
import Derived.Test.YtkkfnlehlkiejaaGreatDoorZ03
import Derived.Maps.Keyed
import Derived.DeepKeys3
import Derived.Lib.Bytealg
import Derived.Sort.Statements
import Derived.Test.YtkkfnlehlkiejaaGreatDoorZ04
import Derived.Sort.Grow
import Derived.Deep.Draws
import Derived.Test.YtkkfnlehlkiejaaGreatDoorProg
import Derived.Test.YtkkfnlehlkiejaaGreatDoorZ05
import Derived.Lib.SplitLaws
import Derived.Lib.CountLaws
import Derived.Lib.CutLaws
import Derived.Lib.ItoaNum
import Derived.Test.YtkkfnlehlkiejaaGreatDoorZ02
import Derived.KernelRfl
namespace Go.Proofs.YtkkfnlehlkiejaaGreatDoor
open Go.RowKit Go.Maps

section
variable {α : Type} [DecidableEq α]
def aget {β : Type} : List (α × β) → α → Option β
  | [], _ => none
  | (b, v) :: r, a => if b = a then some v else aget r a
def aset {β : Type} : List (α × β) → α → β → List (α × β)
  | [], a, v => [(a, v)]
  | (b, u) :: r, a, v => if b = a then (a, v) :: r else (b, u) :: aset r a v
def adel {β : Type} (l : List (α × β)) (a : α) : List (α × β) := l.filter fun p => !decide (p.1 = a)
variable {β : Type}
theorem aget_aset (l : List (α × β)) (a c : α) (v : β) : aget (aset l a v) c = if a = c then some v else aget l c := by
  induction l with
  | nil => simp [aset, aget]
  | cons p r ih =>
    obtain ⟨b, u⟩ := p
    unfold aset
    by_cases h : b = a
    · subst h
      simp only [if_pos]
      unfold aget
      split <;> rfl
    · rw [if_neg h]
      simp only [aget]
      rw [ih]
      by_cases h1 : b = c
      · subst h1
        rw [if_pos rfl, if_neg (fun e => h e.symm), if_pos rfl]
      · rw [if_neg h1, if_neg h1]
theorem aget_none {l : List (α × β)} {a : α} : aget l a = none ↔ ∀ p ∈ l, p.1 ≠ a := by
  induction l with
  | nil => simp [aget]
  | cons p r ih =>
    obtain ⟨b, u⟩ := p
    unfold aget
    by_cases h : b = a
    · simp [h]
    · rw [if_neg h, ih]
      simp [h]
theorem aget_mem {l : List (α × β)} {a : α} {v : β} (h : aget l a = some v) : (a, v) ∈ l := by
  induction l with
  | nil => simp [aget] at h
  | cons p r ih =>
    obtain ⟨b, u⟩ := p
    unfold aget at h
    by_cases h' : b = a
    · rw [if_pos h'] at h
      simp at h; subst h; subst h'; simp
    · rw [if_neg h'] at h
      exact List.mem_cons_of_mem _ (ih h)
theorem aget_at {l : List (α × β)} (hd : l.Pairwise fun p q => p.1 ≠ q.1) {a : α} {v : β} (h : (a, v) ∈ l) : aget l a = some v := by
  induction l with
  | nil => cases h
  | cons p r ih =>
    obtain ⟨b, u⟩ := p
    obtain ⟨h1, h2⟩ := List.pairwise_cons.1 hd
    unfold aget
    rcases List.mem_cons.1 h with e | e
    · cases e; rw [if_pos rfl]
    · rw [if_neg (h1 _ e)]; exact ih h2 e
theorem aset_new {l : List (α × β)} {a : α} {v : β} (h : ∀ p ∈ l, p.1 ≠ a) : aset l a v = l ++ [(a, v)] := by
  induction l with
  | nil => rfl
  | cons p r ih =>
    obtain ⟨b, u⟩ := p
    unfold aset
    rw [if_neg (h (b, u) (by simp)), ih fun q hq => h q (by simp [hq])]
    rfl
theorem aset_old {l : List (α × β)} (hd : l.Pairwise fun p q => p.1 ≠ q.1) {a : α} {v u : β} {j : Nat} (hj : l[j]? = some (a, u)) : aset l a v = l.set j (a, v) := by
  induction l generalizing j with
  | nil => simp at hj
  | cons p r ih =>
    obtain ⟨b, x⟩ := p
    obtain ⟨h1, h2⟩ := List.pairwise_cons.1 hd
    unfold aset
    cases j with
    | zero =>
      simp at hj
      rw [if_pos hj.1]; rfl
    | succ j =>
      have hj' : r[j]? = some (a, u) := by simpa using hj
      rw [if_neg (h1 _ (List.mem_of_getElem? hj')), ih h2 hj']
      rfl
theorem aset_keys {l : List (α × β)} (a : α) (v : β) : ∀ p ∈ aset l a v, p = (a, v) ∨ (p ∈ l ∧ p.1 ≠ a) ∨ (p ∈ l) := by
  induction l with
  | nil => intro p hp; simp [aset] at hp; exact .inl hp
  | cons q r ih =>
    obtain ⟨b, u⟩ := q
    intro p hp
    unfold aset at hp
    split at hp
    · rcases List.mem_cons.1 hp with h | h
      · exact .inl h
      · exact .inr (.inr (by simp [h]))
    · rcases List.mem_cons.1 hp with h | h
      · exact .inr (.inr (by simp [h]))
      · rcases ih p h with h | h | h
        · exact .inl h
        · exact .inr (.inr (by simp [h.1]))
        · exact .inr (.inr (by simp [h]))
theorem aset_dis {l : List (α × β)} (hd : l.Pairwise fun p q => p.1 ≠ q.1) (a : α) (v : β) : (aset l a v).Pairwise fun p q => p.1 ≠ q.1 := by
  induction l with
  | nil => simp [aset]
  | cons q r ih =>
    obtain ⟨b, u⟩ := q
    obtain ⟨h1, h2⟩ := List.pairwise_cons.1 hd
    unfold aset
    split
    · rename_i h
      subst h
      exact List.pairwise_cons.2 ⟨h1, h2⟩
    · rename_i h
      refine List.pairwise_cons.2 ⟨fun p hp => ?_, ih h2⟩
      rcases aset_keys a v p hp with e | e | e
      · rw [e]; exact h
      · exact h1 _ e.1
      · exact h1 _ e
theorem aset_length (l : List (α × β)) (a : α) (v : β) : (aset l a v).length ≤ l.length + 1 := by
  induction l with
  | nil => simp [aset]
  | cons q r ih => obtain ⟨b, u⟩ := q; unfold aset; split <;> simp; exact ih
end

/-- The entries with their values as they lie. -/
def amap {α β γ : Type} (f : β → γ) (l : List (α × β)) : List (α × γ) := l.map fun p => (p.1, f p.2)
theorem aset_amap {α β γ : Type} [DecidableEq α] (f : β → γ) (l : List (α × β)) (a : α) (v : β) : aset (amap f l) a (f v) = amap f (aset l a v) := by
  induction l with
  | nil => rfl
  | cons p r ih =>
    obtain ⟨b, u⟩ := p
    show aset ((b, f u) :: amap f r) a (f v) = _
    unfold aset
    split
    · rfl
    · rw [ih]; rfl
theorem aget_amap {α β γ : Type} [DecidableEq α] (f : β → γ) (l : List (α × β)) (a : α) : aget (amap f l) a = (aget l a).map f := by
  induction l with
  | nil => rfl
  | cons p r ih =>
    obtain ⟨b, u⟩ := p
    show aget ((b, f u) :: amap f r) a = _
    unfold aget
    split
    · rfl
    · rw [ih]

/-- Block b is a map with these entries, in the order of their making; a key lies as enc says. -/
structure MapB {α : Type} (P : Program) (k : TypeId) (enc : α → Value) (w : World) (b : Nat) (l : List (α × Value)) : Prop where
  blk : ∃ es clock, w.heap[b]? = some (.map es clock) ∧ es.toList.map (fun e => (e.key, e.val)) = l.map (fun p => (enc p.1, p.2))
  key : ∀ p ∈ l, ∃ kl, keyOf P k (enc p.1) = some kl
  dis : l.Pairwise fun p q => p.1 ≠ q.1
  brn : ∀ es c, w.heap[b]? = some (.map es c) → (es.toList.map (·.born)).Nodup ∧ ∀ x ∈ es.toList, x.born < c

section
variable {α : Type} {P : Program} {k t e : TypeId} {enc : α → Value} {w w1 : World} {b : Nat} {l : List (α × Value)}
theorem MapB.lt (h : MapB P k enc w b l) : b < w.heap.size := by obtain ⟨es, c, hb, _⟩ := h.blk; exact block_lt hb
theorem MapB.kp {M : Nat → Prop} {w' : World} (h : MapB P k enc w b l) (hk : Kp M w w') (hm : ¬ M b) : MapB P k enc w' b l := by
  obtain ⟨es, c, hb, he⟩ := h.blk
  exact ⟨⟨es, c, hk.blk hb hm, he⟩, h.key, h.dis, fun es' c' h' => h.brn es' c' (by rw [hk.blk hb hm] at h'; rw [hb]; exact h')⟩
theorem MapB.drew (h : MapB P k enc w b l) : MapB P k enc w.drew b l := ⟨h.blk, h.key, h.dis, h.brn⟩
theorem NewB.map {c : Nat} (h : NewB w (.map #[] c) b w1) : MapB P k enc w1 b ([] : List (α × Value)) :=
  ⟨⟨#[], c, h.block, rfl⟩, (fun p hp => by cases hp), .nil, fun es c' h' => by rw [h.block] at h'; cases h'; exact ⟨.nil, fun x hx => by simp at hx⟩⟩

variable [DecidableEq α] (hinj : ∀ x y, enc x = enc y → x = y)
include hinj
theorem map_find (K : Keyed P k) {es : List MapEntry} (he : es.map (fun e => (e.key, e.val)) = l.map (fun p => (enc p.1, p.2))) (hkey : ∀ p ∈ l, ∃ kl, keyOf P k (enc p.1) = some kl) (hdis : l.Pairwise fun p q => p.1 ≠ q.1)
    {a : α} {kl : Lit} (ha : keyOf P k (enc a) = some kl) :
    (aget l a = none ∧ (Instr.findKey k (enc a) es).run P w = .ok none w) ∨
    (∃ j v u, aget l a = some v ∧ (Instr.findKey k (enc a) es).run P w = .ok (some (j, v)) w ∧ l[j]? = some (a, v) ∧ es[j]? = some u ∧ u.key = enc a) := by
  have hm : ∀ x ∈ es, ∃ p ∈ l, x.key = enc p.1 ∧ x.val = p.2 := fun x hx => by
    have : (x.key, x.val) ∈ es.map (fun e => (e.key, e.val)) := List.mem_map.2 ⟨x, hx, rfl⟩
    rw [he] at this
    obtain ⟨p, hp, e⟩ := List.mem_map.1 this
    simp at e
    exact ⟨p, hp, e.1.symm, e.2.symm⟩
  rcases K.find w ha es (fun x hx => by
    obtain ⟨p, hp, h1, _⟩ := hm x hx
    rw [h1]; exact hkey p hp) with ⟨h1, h2⟩ | ⟨j, u, h1, h2, h3⟩
  · refine .inl ⟨aget_none.2 fun p hp hpa => ?_, h1⟩
    have : (enc p.1, p.2) ∈ l.map (fun p => (enc p.1, p.2)) := List.mem_map.2 ⟨p, hp, rfl⟩
    rw [← he] at this
    obtain ⟨x, hx, e⟩ := List.mem_map.1 this
    simp at e
    exact h2 x hx (by rw [e.1, hpa])
  · have h4 : (es.map (fun e => (e.key, e.val)))[j]? = some (u.key, u.val) := by simp [h2]
    rw [he] at h4
    simp only [List.getElem?_map, Option.map_eq_some_iff] at h4
    obtain ⟨p, hp, e⟩ := h4
    simp at e
    obtain ⟨pa, pv⟩ := p
    have ea : pa = a := hinj _ _ (e.1.trans h3)
    subst ea
    have ev : pv = u.val := e.2
    subst ev
    exact .inr ⟨j, _, u, aget_at hdis (List.mem_of_getElem? hp), h1, hp, h2, h3⟩
/-- A look into a map. -/
theorem MapB.look (h : MapB P k enc w b l) (K : Keyed P k) (ht : P.underlying t = some (.map k e)) {z : Value} (hz : (zeroValue e).run P w = .ok z w) {a : α} {kl : Lit} (ha : keyOf P k (enc a) = some kl) (ok : Bool) :
    LookP P t (.map (some b)) (enc a) ok (match ok with | true => .tuple #[(aget l a).getD z, .bool (aget l a).isSome] | false => (aget l a).getD z) w := by
  obtain ⟨es, c, hb, he⟩ := h.blk
  constructor
  rcases map_find hinj K he h.key h.dis ha (w := w) with ⟨h1, h2⟩ | ⟨j, v, u, h1, h2, _⟩
  · rw [h1]
    cases ok <;> simp [Instr.lookup, run_underlying ht, MapKept.run_getObj_map hb, K.check w _ ha, h2, hz, Result.andThen]
  · rw [h1]
    cases ok <;> simp [Instr.lookup, run_underlying ht, MapKept.run_getObj_map hb, K.check w _ ha, h2, Result.andThen]
/-- An entry of a map is written. -/
theorem MapB.upd (h : MapB P k enc w b l) (K : Keyed P k) (ht : P.underlying t = some (.map k e)) {a : α} {kl : Lit} (ha : keyOf P k (enc a) = some kl) (v : Value) :
    ∃ w1, UpdP P t (.map (some b)) (enc a) v w w1 ∧ MapB P k enc w1 b (aset l a v) ∧ Kp (· = b) w w1 := by
  obtain ⟨es, c, hb, he⟩ := h.blk
  have hkp : ∀ o, Kp (· = b) w (ChangeMaps.setBlock w b o) := fun o => ⟨rfl, rfl, rfl, by simp [ChangeMaps.setBlock], fun i _ hi => ChangeMaps.heap_setBlock_other hb _ (fun e => hi (by rw [e]))⟩
  have hkeys : ∀ p ∈ aset l a v, ∃ kl, keyOf P k (enc p.1) = some kl := fun p hp => by
    rcases aset_keys a v p hp with e | e | e
    · rw [e]; exact ⟨_, ha⟩
    · exact h.key p e.1
    · exact h.key p e
  rcases map_find hinj K he h.key h.dis ha (w := w) with ⟨h1, h2⟩ | ⟨j, x, u, h1, h2, h3, h4, h5⟩
  · refine ⟨ChangeMaps.setBlock w b (.map (es.push ⟨enc a, v, c⟩) (c + 1)), ⟨?_⟩, ⟨⟨_, _, ChangeMaps.heap_setBlock_same hb _, ?_⟩, hkeys, aset_dis h.dis a v, fun es' c' h' => ?_⟩, hkp _⟩
    rotate_left 2
    · rw [ChangeMaps.heap_setBlock_same hb] at h'
      cases h'
      have h3 := h.brn es c hb
      refine ⟨?_, fun x hx => ?_⟩
      · rw [Array.toList_push, List.map_append, List.nodup_append]
        refine ⟨h3.1, by simp, fun x hx y hy e => ?_⟩
        obtain ⟨z, hz, rfl⟩ := List.mem_map.1 hx
        simp at hy
        have := h3.2 z hz
        omega
      · rw [Array.toList_push] at hx
        rcases List.mem_append.1 hx with hx | hx
        · have := h3.2 x hx; omega
        · simp at hx; subst hx; exact Nat.lt_succ_self _
    · simp [Instr.mapUpdate, run_underlying ht, MapKept.run_getObj_map hb, K.check w _ ha, h2, MapKept.run_setObj_map _ hb, Result.andThen, ChangeMaps.setBlock]
    · rw [aset_new (aget_none.1 h1)]
      simp [he]
  · refine ⟨ChangeMaps.setBlock w b (.map (es.modify j fun e' => { e' with key := enc a, val := v }) c), ⟨?_⟩, ⟨⟨_, _, ChangeMaps.heap_setBlock_same hb _, ?_⟩, hkeys, aset_dis h.dis a v, fun es' c' h' => ?_⟩, hkp _⟩
    rotate_left 2
    · rw [ChangeMaps.heap_setBlock_same hb] at h'
      cases h'
      have h3' := h.brn es c hb
      have eb : (es.modify j fun e' => { e' with key := enc a, val := v }).toList.map (·.born) = es.toList.map (·.born) := by
        have hj : es[j]? = some u := by simpa using h4
        rw [Array.toList_modify, ChangeMaps.modify_eq_set _ _ _ _ h4, List.map_set]
        exact List.ext_getElem? fun i => by
          rw [List.getElem?_set]
          split
          · rename_i hji
            subst hji
            have hlt : j < (es.toList.map (·.born)).length := by simpa using (List.getElem?_eq_some_iff.1 h4).1
            rw [if_pos hlt, List.getElem?_map, h4]; rfl
          · rfl
      refine ⟨by rw [eb]; exact h3'.1, fun x hx => ?_⟩
      have hm : x.born ∈ (es.modify j fun e' => { e' with key := enc a, val := v }).toList.map (·.born) := List.mem_map.2 ⟨x, hx, rfl⟩
      rw [eb] at hm
      obtain ⟨y, hy, e⟩ := List.mem_map.1 hm
      rw [← e]; exact h3'.2 y hy
    · have hj : es[j]? = some u := by simpa using h4
      simp [Instr.mapUpdate, run_underlying ht, MapKept.run_getObj_map hb, K.check w _ ha, h2, hj, h5, K.stays w ha, MapKept.run_setObj_map _ hb, Result.andThen, ChangeMaps.setBlock]
    · rw [aset_old h.dis h3, List.map_set, ← he, Array.toList_modify, ChangeMaps.modify_eq_set _ _ _ _ h4, List.map_set]
end

end Go.Proofs.YtkkfnlehlkiejaaGreatDoor

/- Arrays of bytes as keys of maps, and their comparison. Generic: no program. -/
namespace Go.Proofs.YtkkfnlehlkiejaaGreatDoor
open Go.RowKit Go.Maps

theorem mapM_some {α β : Type} {f : α → Option β} {g : α → β} : ∀ (l : List α), (∀ x ∈ l, f x = some (g x)) → l.mapM f = some (l.map g)
  | [], _ => by simp
  | x :: l, h => by
    rw [List.mapM_cons, h x (by simp), mapM_some l fun y hy => h y (by simp [hy])]
    rfl
section
variable {P : Program} {t e : TypeId} {n : Nat}
/-- An array of bytes. -/
def byA (l : List Int) : Value := .agg (l.map (Value.int .u8)).toArray
theorem byA_inj (x y : List Int) (h : byA x = byA y) : x = y := by
  unfold byA at h
  simp only [Value.agg.injEq] at h
  have h : x.map (Value.int .u8) = y.map (Value.int .u8) := congrArg Array.toList h
  exact (List.map_inj_right (fun a b h => by cases h; rfl)).1 h
theorem keyLits_bytes (ht : P.underlying t = some (.array n e)) (he : P.underlying e = some (.int .u8)) (hc : P.cellsOf e = 1) (hct : P.cellsOf t = n) {l : List Int} (hl : l.length = n) (hb : ∀ x ∈ l, 0 ≤ x ∧ x ≤ 255) (D : Nat) :
    P.keyLits (D + 2) t (l.map (Value.int .u8)) = some (l.map (Lit.int .u8)) := by
  unfold Program.keyLits
  rw [ht]
  simp only
  rw [if_pos (by rw [List.length_map, hl, hct]), mapM_some (g := fun i => [Lit.int .u8 (l.getD i 0)]) _ (fun i hi => ?_)]
  · simp only [Option.map_some, Option.some.injEq]
    have h1 : ∀ r : List Nat, (r.map fun i => [Lit.int .u8 (l.getD i 0)]).flatten = r.map fun i => Lit.int .u8 (l.getD i 0) := fun r => by
      induction r with
      | nil => rfl
      | cons a r ih => rw [List.map_cons, List.map_cons, List.flatten_cons, ih]; rfl
    rw [h1]
    apply List.ext_getElem?
    intro j
    rw [List.getElem?_map, List.getElem?_map]
    rcases Nat.lt_or_ge j n with h | h
    · rw [List.getElem?_range h, List.getElem?_eq_getElem (by omega)]
      simp [List.getD_eq_getElem?_getD, hl, h]
    · rw [List.getElem?_eq_none (by simpa using h), List.getElem?_eq_none (by omega)]
      rfl
  · have hi : i < n := List.mem_range.1 hi
    have : ((l.map (Value.int .u8)).drop (i * P.cellsOf e)).take (P.cellsOf e) = [.int .u8 (l.getD i 0)] := by
      rw [hc, Nat.mul_one, List.drop_eq_getElem_cons (by rw [List.length_map]; omega)]
      simp [List.getD_eq_getElem?_getD, hl, hi]
    rw [this]
    unfold Program.keyLits
    rw [he]
    simp only
    have hx := hb (l.getD i 0) (by
      rw [List.getD_eq_getElem?_getD, List.getElem?_eq_getElem (by omega)]
      simp)
    generalize l.getD i 0 = v at hx
    have hw : (Lit.int .u8 v).wf = true := by simp [Lit.wf, IntKind.min, IntKind.max, IntKind.bits, IntKind.signed]; omega
    simp [hw]
theorem keyOf_bytes (ht : P.underlying t = some (.array n e)) (he : P.underlying e = some (.int .u8)) (hc : P.cellsOf e = 1) (hct : P.cellsOf t = n) (hkt : P.keyType t = true) (hD : 1 ≤ P.types.size) {l : List Int} (hl : l.length = n) (hb : ∀ x ∈ l, 0 ≤ x ∧ x ≤ 255) :
    keyOf P t (byA l) = some (.string (keyBytes (l.map (Lit.int .u8)))) := by
  unfold keyOf
  rw [ht]
  simp only
  have hf : (byA l).formed P t = true := by
    unfold byA Value.formed
    rw [ht]
    simp [hl, hct]
  rw [hkt, hf]
  have hk := keyLits_bytes ht he hc hct hl hb (P.types.size - 1)
  rw [show P.types.size - 1 + 2 = P.types.size + 1 by omega] at hk
  have : (byA l).cells.toList = l.map (Value.int .u8) := by simp [byA, Value.cells]
  rw [this, hk]
  rfl
theorem eq_bytes (ht : P.underlying t = some (.array n e)) (he : P.underlying e = some (.int .u8)) (hc : P.cellsOf e = 1) (hct : P.cellsOf t = n) (hkt : P.keyType t = true) (hD : 1 ≤ P.types.size) (hkm : P.keyTypeAt 3 t = true) (hg : P.eqGuardType P.depth t = false) {l l' : List Int} (hl : l.length = n) (hb : ∀ x ∈ l, 0 ≤ x ∧ x ≤ 255) (hl' : l'.length = n) (hb' : ∀ x ∈ l', 0 ≤ x ∧ x ≤ 255) :
    EqP P t (byA l) (byA l') (decide (l = l')) := by
  refine ⟨fun w => ?_, hg, _, _, rfl, rfl⟩
  obtain ⟨r, hr, hi⟩ := run_equal_deep w (m := 3) (by omega) hkm (by rw [ht]) (keyOf_bytes ht he hc hct hkt hD hl hb) (keyOf_bytes ht he hc hct hkt hD hl' hb')
  rw [hr]
  congr 1
  rw [Bool.eq_iff_iff, hi, decide_eq_true_eq]
  constructor
  · intro h
    have h : keyBytes (l.map (Lit.int .u8)) = keyBytes (l'.map (Lit.int .u8)) := by simpa using h
    have := keyLits_inj (keyLits_bytes ht he hc hct hl hb 0) (keyLits_bytes ht he hc hct hl' hb' 0) h
    exact (List.map_inj_right (fun a b h => by cases h; rfl)).1 this
  · rintro rfl; rfl
end
end Go.Proofs.YtkkfnlehlkiejaaGreatDoor

/- Orders by a comparing function (plain): numbers first, then bytes. No condition. -/
namespace Go.Proofs.YtkkfnlehlkiejaaGreatDoor
open Go.Sort

/-- A comparing function. -/
structure Ord3 {α : Type} (cf : α → α → Int) : Prop where
  anti : ∀ x y, cf x y = - cf y x
  tlt : ∀ x y z, cf x y < 0 → cf y z < 0 → cf x z < 0
  el : ∀ x y z, cf x y = 0 → cf y z < 0 → cf x z < 0
  le : ∀ x y z, cf x y < 0 → cf y z = 0 → cf x z < 0
theorem Ord3.self {α : Type} {cf : α → α → Int} (h : Ord3 cf) (x : α) : cf x x = 0 := by have := h.anti x x; omega
theorem Ord3.le_trans {α : Type} {cf : α → α → Int} (h : Ord3 cf) {x y z : α} (h1 : cf x y ≤ 0) (h2 : cf y z ≤ 0) (hz : ∀ x y z, cf x y = 0 → cf y z = 0 → cf x z = 0) : cf x z ≤ 0 := by
  rcases Int.lt_or_eq_of_le h1 with a | a <;> rcases Int.lt_or_eq_of_le h2 with b | b
  · have := h.tlt x y z a b; omega
  · have := h.le x y z a b; omega
  · have := h.el x y z a b; omega
  · have := hz x y z a b; omega
theorem cb_anti : ∀ a b : List UInt8, Lib.compareBytes a b = - Lib.compareBytes b a
  | [], [] => rfl
  | [], _ :: _ => rfl
  | _ :: _, [] => rfl
  | a :: us, b :: bs => by
    have ih := cb_anti us bs
    simp only [Lib.compareBytes]
    by_cases h1 : a < b
    · have h2 : ¬ b < a := by rw [UInt8.lt_iff_toNat_lt] at h1 ⊢; omega
      rw [if_pos h1, if_neg h2, if_pos h1]
    · by_cases h2 : b < a
      · rw [if_neg h1, if_pos h2, if_pos h2]; rfl
      · rw [if_neg h1, if_neg h2, if_neg h2, if_neg h1]; exact ih
theorem cb_zero : ∀ a b : List UInt8, Lib.compareBytes a b = 0 → a = b
  | [], [], _ => rfl
  | [], _ :: _, h => by simp [Lib.compareBytes] at h
  | _ :: _, [], h => by simp [Lib.compareBytes] at h
  | a :: us, b :: bs, h => by
    simp only [Lib.compareBytes] at h
    split at h
    · cases h
    · split at h
      · cases h
      · rename_i h1 h2
        have : a = b := by
          rw [UInt8.lt_iff_toNat_lt] at h1 h2
          exact UInt8.toNat_inj.1 (by omega)
        rw [this, cb_zero us bs h]
theorem cb_self (a : List UInt8) : Lib.compareBytes a a = 0 := by have := cb_anti a a; omega
theorem cb_tlt : ∀ a b c : List UInt8, Lib.compareBytes a b < 0 → Lib.compareBytes b c < 0 → Lib.compareBytes a c < 0
  | [], [], _, h, _ => by simp [Lib.compareBytes] at h
  | _ :: _, [], _, h, _ => by simp [Lib.compareBytes] at h
  | [], _ :: _, [], _, h => by simp [Lib.compareBytes] at h
  | [], _ :: _, _ :: _, _, _ => by simp [Lib.compareBytes]
  | _ :: _, _ :: _, [], _, h => by simp [Lib.compareBytes] at h
  | a :: us, b :: bs, c :: cs, h1, h2 => by
    have ih := cb_tlt us bs cs
    simp only [Lib.compareBytes] at h1 h2 ⊢
    simp only [UInt8.lt_iff_toNat_lt] at h1 h2 ⊢
    repeat' split
    all_goals first | decide | (split at h1 <;> split at h2 <;> first | omega | (split at h1 <;> first | omega | (split at h2 <;> first | omega | (apply ih <;> assumption))) | (split at h2 <;> first | omega | (apply ih <;> assumption)))
theorem cb_ord {α : Type} (f : α → List UInt8) : Ord3 fun x y => Lib.compareBytes (f x) (f y) where
  anti x y := cb_anti _ _
  tlt x y z := cb_tlt _ _ _
  el x y z h1 h2 := by have := cb_zero _ _ h1; rw [this]; exact h2
  le x y z h1 h2 := by have := cb_zero _ _ h2; rw [← this]; exact h1
theorem ci_ord {α : Type} (f : α → Int) : Ord3 fun x y => if f x < f y then (-1 : Int) else if f y < f x then 1 else 0 where
  anti x y := by split <;> split <;> omega
  tlt x y z h1 h2 := by split at h1 <;> split at h2 <;> split <;> omega
  el x y z h1 h2 := by split at h1 <;> split at h2 <;> split <;> omega
  le x y z h1 h2 := by split at h1 <;> split at h2 <;> split <;> omega
/-- One after the other. -/
theorem Ord3.thn {α : Type} {cf cg : α → α → Int} (hf : Ord3 cf) (hg : Ord3 cg) (hz : ∀ x y z, cf x y = 0 → cf y z = 0 → cf x z = 0) : Ord3 fun x y => if cf x y ≠ 0 then cf x y else cg x y where
  anti x y := by
    have h1 := hf.anti x y
    have h2 := hg.anti x y
    by_cases h : cf x y = 0
    · rw [if_neg (by omega), if_neg (by omega)]; exact h2
    · rw [if_pos h, if_pos (by omega)]; exact h1
  tlt x y z h1 h2 := by
    by_cases a : cf x y = 0
    · rw [if_neg (by omega)] at h1
      by_cases b : cf y z = 0
      · rw [if_neg (by omega)] at h2
        rw [if_neg (by have := hz x y z a b; omega)]
        exact hg.tlt x y z h1 h2
      · rw [if_pos b] at h2
        have := hf.el x y z a h2
        rw [if_pos (by omega)]; exact this
    · rw [if_pos a] at h1
      by_cases b : cf y z = 0
      · have := hf.le x y z h1 b
        rw [if_pos (by omega)]; exact this
      · rw [if_pos b] at h2
        have := hf.tlt x y z h1 h2
        rw [if_pos (by omega)]; exact this
  el x y z h1 h2 := by
    by_cases a : cf x y = 0
    · rw [if_neg (by omega)] at h1
      by_cases b : cf y z = 0
      · rw [if_neg (by omega)] at h2
        rw [if_neg (by have := hz x y z a b; omega)]
        exact hg.el x y z h1 h2
      · rw [if_pos b] at h2
        have := hf.el x y z a h2
        rw [if_pos (by omega)]; exact this
    · rw [if_pos a] at h1; omega
  le x y z h1 h2 := by
    by_cases b : cf y z = 0
    · rw [if_neg (by omega)] at h2
      by_cases a : cf x y = 0
      · rw [if_neg (by omega)] at h1
        rw [if_neg (by have := hz x y z a b; omega)]
        exact hg.le x y z h1 h2
      · rw [if_pos a] at h1
        have := hf.le x y z h1 b
        rw [if_pos (by omega)]; exact this
    · rw [if_pos b] at h2; omega
theorem Ord3.swo {α : Type} {cf : α → α → Int} (h : Ord3 cf) : SWO fun x y => decide (cf x y < 0) where
  irrefl x := by have := h.self x; simp; omega
  trans x y z h1 h2 := by simp at h1 h2 ⊢; exact h.tlt x y z h1 h2
  ntrans x y z h1 h2 := by
    simp at h1 h2 ⊢
    have a1 := h.anti x y
    have a2 := h.anti y z
    have a3 := h.anti x z
    rcases Int.lt_or_eq_of_le h1 with p | p <;> rcases Int.lt_or_eq_of_le h2 with q | q
    · have := h.tlt z y x (by omega) (by omega); omega
    · have := h.el z y x (by omega) (by omega); omega
    · have := h.le z y x (by omega) (by omega); omega
    · have b1 : cf x y = 0 := by omega
      have b2 : cf y z = 0 := by omega
      apply Classical.byContradiction
      intro hc
      have := h.le x z y (by omega) (by omega)
      omega

end Go.Proofs.YtkkfnlehlkiejaaGreatDoor

/- Identities: arrays of 32 bytes as lists, as keys, compared. No condition. -/
namespace Go.Proofs.YtkkfnlehlkiejaaGreatDoor
open Go.RowKit Go.Sort Go.Maps

/-- The numbers of an array of 32 bytes. -/
def idI (f : Nat → Int) : List Int := (List.range 32).map f
/-- Its bytes. -/
def idB (f : Nat → Int) : List UInt8 := (idI f).map fun x => x.toNat.toUInt8
theorem arrI_idI (f : Nat → Int) : arrI .u8 f 32 0 = (idI f).map (Value.int .u8) := rfl
theorem idI_get (f : Nat → Int) {j : Nat} (h : j < 32) : (idI f)[j]? = some (f j) := by simp [idI, h]
theorem arrI_get (k : IntKind) (f : Nat → Int) : ∀ (n i j : Nat), j < n → (arrI k f n i)[j]? = some (.int k (f (i + j)))
  | 0, _, j, h => by omega
  | n + 1, i, 0, _ => by simp [arrI]
  | n + 1, i, j + 1, h => by
    simp only [arrI, List.getElem?_cons_succ]
    rw [arrI_get k f n (i + 1) j (by omega)]
    congr 3; omega
/-- Only draws and new blocks. -/
theorem grow_of {w w' : World} (h : K0 w w') (hd : w.drawn ≤ w'.drawn) : ∃ q os', w' = grow (w.drewN q) os' := by
  refine ⟨w'.drawn - w.drawn, w'.heap.extract w.heap.size w'.heap.size, ?_⟩
  have hh : w'.heap = w.heap ++ w'.heap.extract w.heap.size w'.heap.size := by
    apply Array.ext_getElem?
    intro i
    rw [Array.getElem?_append]
    split
    · rename_i hi; exact h.block i hi (fun h => h)
    · rename_i hi
      rw [Array.getElem?_extract]
      have := h.size
      by_cases hl : i < w'.heap.size
      · rw [if_pos (by omega)]; congr 1; omega
      · rw [if_neg (by omega)]; exact Array.getElem?_eq_none (by omega)
  have h1 := h.os
  have h2 := h.tape
  have h3 := h.output
  obtain ⟨hp, tp, dr, os, out⟩ := w
  obtain ⟨hp', tp', dr', os', out'⟩ := w'
  simp only at hh h1 h2 h3 hd
  subst h1 h2 h3
  simp only [grow, World.drewN]
  congr 1
  omega
theorem aget_trues {α : Type} [DecidableEq α] (acc : List α) (a : α) : aget (acc.map fun x => (x, Value.bool true)) a = if a ∈ acc then some (.bool true) else none := by
  induction acc with
  | nil => rfl
  | cons y r ih =>
    rw [List.map_cons]
    unfold aget
    by_cases h : y = a
    · subst h; simp
    · rw [if_neg h, ih]
      simp only [List.mem_cons]
      have : ¬ a = y := fun e => h e.symm
      simp [this]
theorem zeroBool (w : World) : (zeroValue 4).run Tryz.prog w = .ok (.bool false) w := by kernel_rfl
theorem idKeyed : Keyed Tryz.prog 52 := Keyed.of_law (deep_law (m := 3) (by omega) (by kernel_rfl) (by kernel_rfl) (by kernel_rfl))
theorem idKey {l : List Int} (hl : l.length = 32) (hb : ∀ x ∈ l, 0 ≤ x ∧ x ≤ 255) : keyOf Tryz.prog 52 (byA l) = some (.string (keyBytes (l.map (Lit.int .u8)))) :=
  keyOf_bytes Tryz.underlying52 Tryz.underlying5 (by kernel_rfl) (by kernel_rfl) (by kernel_rfl) (by decide +kernel) hl hb
theorem idEq {l l' : List Int} (hl : l.length = 32) (hb : ∀ x ∈ l, 0 ≤ x ∧ x ≤ 255) (hl' : l'.length = 32) (hb' : ∀ x ∈ l', 0 ≤ x ∧ x ≤ 255) : EqP Tryz.prog 52 (byA l) (byA l') (decide (l = l')) :=
  eq_bytes Tryz.underlying52 Tryz.underlying5 (by kernel_rfl) (by kernel_rfl) (by kernel_rfl) (by decide +kernel) (by kernel_rfl) (by kernel_rfl) hl hb hl' hb'
theorem idI_len (f : Nat → Int) : (idI f).length = 32 := by simp [idI]
theorem idI_bd {f : Nat → Int} (h : ∀ j, 0 ≤ f j ∧ f j ≤ 255) : ∀ x ∈ idI f, 0 ≤ x ∧ x ≤ 255 := fun x hx => by
  obtain ⟨j, _, rfl⟩ := List.mem_map.1 hx
  exact h j

end Go.Proofs.YtkkfnlehlkiejaaGreatDoor

/- Rows of elements that can be read. Generic: no program, no condition. -/
namespace Go.Proofs.YtkkfnlehlkiejaaGreatDoor
open Go.RowKit

/-- Elements that lie one behind the other. -/
def RowA {α : Type} (f : α → List Value) (L : Nat) (w : World) (p : Option Addr) (l : List α) : Prop := ∀ k y, l[k]? = some y → ∃ b o, p = some ⟨b, o, none⟩ ∧ AtL w b (o + k * L) (f y)
section
variable {α : Type} {f : α → List Value} {L : Nat} {w w' : World} {p : Option Addr} {l : List α}
theorem RowA.k0 (h : RowA f L w p l) (hk : K0 w w') : RowA f L w' p l := fun k y hy => by
  obtain ⟨b, o, h1, h2⟩ := h k y hy
  exact ⟨b, o, h1, h2.k0 hk⟩
theorem RowA.get (h : RowA f L w p l) {k : Nat} (hk : k < l.length) : ∃ y b o, l[k]? = some y ∧ p = some ⟨b, o, none⟩ ∧ AtL w b (o + k * L) (f y) := by
  obtain ⟨y, hy⟩ : ∃ y, l[k]? = some y := ⟨_, List.getElem?_eq_getElem hk⟩
  obtain ⟨b, o, h1, h2⟩ := h k y hy
  exact ⟨y, b, o, hy, h1, h2⟩
theorem RowA.own {base : Nat} {e : TypeId} {n c : Nat} (h : w.ownsRow base e L (.slice p n c) n (l.flatMap f)) (hl : ∀ y, (f y).length = L) (h0 : 0 < L) : RowA f L w p l := fun k y hy => by
  obtain ⟨g, h1, h2⟩ := own_at f h (fun y _ => hl y) h0 hy
  exact ⟨g, 0, h1, h2⟩
theorem RowA.nil : RowA f L w p [] := fun k y hy => by simp at hy
end
theorem AtL.cell {w : World} {b o : Nat} {cs : List Value} (h : AtL w b o cs) {j : Nat} {v : Value} (hj : cs[j]? = some v) : w.cell? ⟨b, o + j, none⟩ = some v := At_get _ _ h.h j v hj
theorem AtL.one {w : World} {b o : Nat} {v : Value} (h : AtL w b o [v]) : w.cell? ⟨b, o, none⟩ = some v := by simpa using h.cell (j := 0) rfl
theorem StrP.get {w : World} {p : Option Addr} {zs : List ByteArray} (h : StrP w p zs) {k : Nat} (hk : k < zs.length) : ∃ z b o, zs[k]? = some z ∧ p = some ⟨b, o, none⟩ ∧ w.cell? ⟨b, o + k, none⟩ = some (.string z) := by
  obtain ⟨y, hy⟩ : ∃ y, zs[k]? = some y := ⟨_, List.getElem?_eq_getElem hk⟩
  obtain ⟨b, o, h1, h2⟩ := h k y hy
  exact ⟨y, b, o, hy, h1, h2⟩
theorem StrP.k0 {w w' : World} {p : Option Addr} {zs : List ByteArray} (h : StrP w p zs) (hk : K0 w w') : StrP w' p zs := h.kp hk (fun _ _ _ h => h)
theorem inc64 {i : Nat} (h : i < 9223372036854775807) : IntKind.i64.wrap ((i : Int) + 1) = ((i + 1 : Nat) : Int) := by rw [wr64 (by omega) (by omega)]; omega
theorem take_snoc {α : Type} {l : List α} {i : Nat} {x : α} (h : l[i]? = some x) : l.take (i + 1) = l.take i ++ [x] := by rw [List.take_add_one, h]; rfl
/-- A block of the function's own is written. -/
theorem put_k0 {w w1 w2 : World} {b o : Nat} {cs : List Value} (h : K0 w w1) (hp : PutB w1 b o cs w2) (hb : w.heap.size ≤ b) : K0 w w2 := Kp.fresh h hp.kp (fun i hi e => by omega)
theorem put_kept {w1 w2 : World} {b o : Nat} {cs : List Value} {l : List Nat} (hp : PutB w1 b o cs w2) (hb : ∀ n ∈ l, n ≠ b) : KeptL l w1 w2 := .of_kp hp.kp (fun n hn e => hb n hn e)
theorem PutB.blk {w1 w2 : World} {b o : Nat} {cs : List Value} (hp : PutB w1 b o cs w2) {n : Nat} {x : Obj} (h : w1.heap[n]? = some x) (hb : n ≠ b) : w2.heap[n]? = some x := hp.kp.blk h (fun e => hb e)
end Go.Proofs.YtkkfnlehlkiejaaGreatDoor

/- Plain: bytes of texts, a text cut at its first byte c, numbers in decimal. No program in sight. -/
namespace Go.Proofs.YtkkfnlehlkiejaaGreatDoor
open Go.RowKit

namespace T0
theorem at8_byte {s : ByteArray} {k : Nat} (h : k < s.size) : s.data.toList[k]? = some (at8 s k).toNat.toUInt8 := by
  rw [at8_lt s k h, Array.getElem?_toList, Array.getElem?_eq_getElem (show k < s.data.size from h)]
  congr 1
  show s[k] = _
  rw [Int.toNat_natCast]
  simp
theorem at8_extract (s : ByteArray) (a b j : Nat) (h : a + j < b) (hb : b ≤ s.size) : at8 (s.extract a b) j = at8 s (a + j) := by
  have h1 : j < (s.extract a b).size := by rw [ByteArray.size_extract]; omega
  rw [at8_lt _ _ h1, at8_lt s (a + j) (by omega)]
  rw [ByteArray.getElem_extract h1]

theorem byte_inj {c d : Int} (hc : 0 ≤ c ∧ c ≤ 255) (hd : 0 ≤ d ∧ d ≤ 255) : (d.toNat.toUInt8 == c.toNat.toUInt8) = decide (d = c) := by
  rw [Bool.eq_iff_iff]
  simp only [beq_iff_eq, decide_eq_true_eq]
  constructor
  · intro h
    have h1 : d.toNat.toUInt8.toNat = c.toNat.toUInt8.toNat := by rw [h]
    rw [UInt8.toNat_ofNat', UInt8.toNat_ofNat'] at h1
    omega
  · rintro rfl; rfl
end T0
open T0
theorem ixC_hit : ∀ (l : List UInt8) (c : UInt8) (i : Nat), l[i]? = some c → (∀ j, j < i → l[j]? ≠ some c) → Lib.indexByte l c = i
  | [], c, i, h, _ => by simp at h
  | b :: l, c, 0, h, _ => by simp at h; subst h; simp [Lib.indexByte]
  | b :: l, c, i + 1, h, hn => by
    have ih := ixC_hit l c i (by simpa using h) (fun j hj => by have := hn (j + 1) (by omega); simpa using this)
    have hb : ¬ b = c := by have := hn 0 (by omega); simpa using this
    unfold Lib.indexByte
    simp only [ih]
    have : (b == c) = false := by simpa using hb
    simp [this]
theorem ixC_miss : ∀ (l : List UInt8) (c : UInt8), (∀ j : Nat, l[j]? ≠ some c) → Lib.indexByte l c = -1
  | [], c, _ => rfl
  | b :: l, c, hn => by
    have ih := ixC_miss l c (fun j => by have := hn (j + 1); simpa using this)
    have hb : ¬ b = c := by have := hn 0; simpa using this
    unfold Lib.indexByte
    have : (b == c) = false := by simpa using hb
    simp [ih, this]
theorem u8C (c : UInt8) {d : Int} (h0 : 0 ≤ d) (h1 : d ≤ 255) : (d.toNat.toUInt8 = c) ↔ d = (c.toNat : Int) := by
  have hc := c.toNat_lt
  have := byte_inj (c := (c.toNat : Int)) (d := d) (by omega) ⟨h0, h1⟩
  have ec : ((c.toNat : Int)).toNat.toUInt8 = c := by simp
  rw [ec] at this
  constructor
  · intro h
    rw [h] at this
    simpa using this.symm
  · intro h
    rw [h]; exact ec
theorem getC (c : UInt8) {s : ByteArray} {j : Nat} : s.data.toList[j]? = some c ↔ j < s.size ∧ at8 s j = (c.toNat : Int) := by
  rcases Nat.lt_or_ge j s.size with h | h
  · rw [at8_byte h]
    simp only [Option.some.injEq, h, true_and]
    exact u8C c (at8_bd s j).1 (at8_bd s j).2
  · have : s.data.toList[j]? = none := List.getElem?_eq_none (by simpa using h)
    rw [this]
    simp; omega

/-- The place of the first byte c at or behind i, or the text's end. -/
def FirstC (c : UInt8) (s : ByteArray) (a i : Nat) : Prop := a ≤ i ∧ i ≤ s.size ∧ (∀ j, a ≤ j → j < i → at8 s j ≠ (c.toNat : Int)) ∧ (i < s.size → at8 s i = (c.toNat : Int))
theorem FirstC.uniq {c : UInt8} {s : ByteArray} {a i k : Nat} (h : FirstC c s a i) (g : FirstC c s a k) : i = k := by
  obtain ⟨h1, h2, h3, h4⟩ := h
  obtain ⟨g1, g2, g3, g4⟩ := g
  rcases Nat.lt_trichotomy i k with h | h | h
  · exact absurd (h4 (by omega)) (g3 i h1 h)
  · exact h
  · exact absurd (g4 (by omega)) (h3 k g1 h)
def findC (c : UInt8) (s : ByteArray) : Nat := s.data.toList.findIdx (· == c)
theorem findC_first (c : UInt8) (s : ByteArray) : FirstC c s 0 (findC c s) := by
  have hl : s.data.toList.length = s.size := s.data.length_toList
  refine ⟨by omega, by rw [← hl]; exact List.findIdx_le_length, fun j _ hj hc => ?_, fun h => ?_⟩
  · have hj' : j < s.size := by rw [← hl]; exact Nat.lt_of_lt_of_le hj List.findIdx_le_length
    have h1 := (getC c).2 ⟨hj', hc⟩
    obtain ⟨hk, e⟩ := List.getElem?_eq_some_iff.1 h1
    have := List.not_of_lt_findIdx hj
    rw [e] at this
    simp at this
  · have h' : s.data.toList.findIdx (· == c) < s.data.toList.length := by rw [hl]; exact h
    have h1 : (s.data.toList[s.data.toList.findIdx (· == c)] == c) = true := List.findIdx_getElem (w := h')
    refine ((getC c).1 ?_).2
    unfold findC
    rw [List.getElem?_eq_getElem h', beq_iff_eq.1 h1]

theorem cut_hit {c : UInt8} {s : ByteArray} {i : Nat} (h : FirstC c s 0 i) (hi : i < s.size) : Lib.cut s.data.toList [c] = ((s.extract 0 i).data.toList, (s.extract (i + 1) s.size).data.toList, true) := by
  have hx : Lib.index s.data.toList [c] = i := by
    rw [Lib.index_one]
    exact ixC_hit _ _ _ ((getC c).2 ⟨hi, h.2.2.2 hi⟩) (fun j hj hc => h.2.2.1 j (by omega) hj ((getC c).1 hc).2)
  unfold Lib.cut
  rw [hx, if_pos (by omega)]
  rw [Lib.extract_from_zero, Lib.extract_to_end]
  rfl
theorem cut_miss {c : UInt8} {s : ByteArray} {i : Nat} (h : FirstC c s 0 i) (hi : ¬ i < s.size) : Lib.cut s.data.toList [c] = (s.data.toList, [], false) := by
  have hx : Lib.index s.data.toList [c] = -1 := by
    rw [Lib.index_one]
    exact ixC_miss _ _ (fun j hc => h.2.2.1 j (by omega) (by have := ((getC c).1 hc).1; have := h.2.1; omega) ((getC c).1 hc).2)
  unfold Lib.cut
  rw [hx, if_neg (by omega)]

/-- A text cut at each byte c. -/
def partsC (c : UInt8) (s : ByteArray) : List ByteArray := Lib.splitB ⟨#[c]⟩ 0 (Lib.countB s ⟨#[c]⟩) s
theorem partsC_hit {c : UInt8} {s : ByteArray} {i : Nat} (h : FirstC c s 0 i) (hi : i < s.size) : partsC c s = s.extract 0 i :: partsC c (s.extract (i + 1) s.size) := by
  have hx : Lib.indexB s ⟨#[c]⟩ = i := by
    show Lib.index s.data.toList [c] = i
    rw [Lib.index_one]
    exact ixC_hit _ _ _ ((getC c).2 ⟨hi, h.2.2.2 hi⟩) (fun j hj hc => h.2.2.1 j (by omega) hj ((getC c).1 hc).2)
  unfold partsC
  rw [Lib.countB_hit s ⟨#[c]⟩ i (Nat.le_refl 1) hx, Nat.add_comm, Lib.splitB_hit _ _ _ _ i hx]
  rfl
theorem partsC_miss {c : UInt8} {s : ByteArray} {i : Nat} (h : FirstC c s 0 i) (hi : ¬ i < s.size) : partsC c s = [s] := by
  have hx : Lib.indexB s ⟨#[c]⟩ = -1 := by
    show Lib.index s.data.toList [c] = -1
    rw [Lib.index_one]
    exact ixC_miss _ _ (fun j hc => h.2.2.1 j (by omega) (by have := ((getC c).1 hc).1; have := h.2.1; omega) ((getC c).1 hc).2)
  unfold partsC
  exact Lib.splitB_miss _ _ _ _ hx

/-! ### Numbers -/
def nvF (s : ByteArray) : Nat → Int
  | 0 => 0
  | k + 1 => 10 * nvF s k + (at8 s k - 48)
def NumOK (s : ByteArray) : Prop := 0 < s.size ∧ (∀ i, i < s.size → 48 ≤ at8 s i ∧ at8 s i ≤ 57) ∧ (1 < s.size → at8 s 0 ≠ 48)
instance (s : ByteArray) : Decidable (NumOK s) := by unfold NumOK; infer_instance
/-- The number that a text denotes, and the error. -/
def numR (s : ByteArray) (m : Int) : Int × Int := if NumOK s then if m < 0 then (0, 2) else if nvF s s.size ≤ m then (nvF s s.size, 0) else (0, 2) else (0, 3)
theorem nvF_nonneg {s : ByteArray} (h : ∀ i, i < s.size → 48 ≤ at8 s i ∧ at8 s i ≤ 57) : ∀ k, k ≤ s.size → 0 ≤ nvF s k
  | 0, _ => by simp [nvF]
  | k + 1, hk => by
    have := nvF_nonneg h k (by omega)
    have := h k (by omega)
    unfold nvF; omega
theorem nvF_mono {s : ByteArray} (h : ∀ i, i < s.size → 48 ≤ at8 s i ∧ at8 s i ≤ 57) (a : Nat) : ∀ d, a + d ≤ s.size → nvF s a ≤ nvF s (a + d)
  | 0, _ => Int.le_refl _
  | d + 1, hk => by
    have h1 := nvF_mono h a d (by omega)
    have h2 := nvF_nonneg h (a + d) (by omega)
    have h3 := h (a + d) (by omega)
    show _ ≤ 10 * nvF s (a + d) + (at8 s (a + d) - 48)
    omega
theorem nvF_hi {s : ByteArray} (h : ∀ i, i < s.size → 48 ≤ at8 s i ∧ at8 s i ≤ 57) : s.size ≤ 6 → nvF s s.size ≤ 999999 := by
  have key : ∀ k, k ≤ s.size → nvF s k + 1 ≤ 10 ^ k := by
    intro k
    induction k with
    | zero => intro _; simp [nvF]
    | succ k ih =>
      intro hk
      have h1 := ih (by omega)
      have h2 := h k (by omega)
      unfold nvF
      rw [Int.pow_succ]
      omega
  intro h6
  have h1 := key s.size (Nat.le_refl _)
  have h3 : ∀ n : Nat, n < 7 → (10 : Int) ^ n ≤ 1000000 := by decide
  have h2 := h3 s.size (by omega)
  omega
theorem nvF_lo {s : ByteArray} (h : NumOK s) (h6 : 6 < s.size) : 999999 < nvF s s.size := by
  obtain ⟨h0, hd, hz⟩ := h
  have key : ∀ k, k + 1 ≤ s.size → (10 : Int) ^ k ≤ nvF s (k + 1) := by
    intro k
    induction k with
    | zero =>
      intro _
      have h1 := hd 0 h0
      have h2 := hz (by omega)
      simp [nvF]; omega
    | succ k ih =>
      intro hk
      have h1 := ih (by omega)
      have h2 := hd (k + 1) (by omega)
      rw [nvF, Int.pow_succ]
      omega
  have h1 : (10 : Int) ^ 6 ≤ nvF s 7 := key 6 (by omega)
  have h2 := nvF_mono hd 7 (s.size - 7) (by omega)
  rw [show 7 + (s.size - 7) = s.size by omega] at h2
  have h3 : (10 : Int) ^ 6 = 1000000 := by decide
  omega

theorem at8_left {a b : ByteArray} {j : Nat} (h : j < a.size) : at8 (a ++ b) j = at8 a j := by
  rw [at8_lt _ _ (by rw [ByteArray.size_append]; omega), at8_lt _ _ h, ByteArray.getElem_append_left h]
theorem at8_right {a b : ByteArray} {j : Nat} (h : j < b.size) : at8 (a ++ b) (a.size + j) = at8 b j := by
  rw [at8_lt _ _ (by rw [ByteArray.size_append]; omega), at8_lt _ _ h, ByteArray.getElem_append_right (by omega)]
  simp only [Nat.add_sub_cancel_left]
theorem at8_one (x : UInt8) : at8 ⟨#[x]⟩ 0 = (x.toNat : Int) := by rw [at8_lt _ 0 (by show 0 < 1; omega)]; rfl
theorem size_one (x : UInt8) : (⟨#[x]⟩ : ByteArray).size = 1 := rfl

/-! ### A number in decimal -/
def decT (u : Nat) : ByteArray := ⟨(Lib.decDigits u).toArray⟩
theorem decT_small {u : Nat} (h : u < 10) : decT u = ⟨#[UInt8.ofNat (48 + u)]⟩ := by unfold decT; rw [Lib.decDigits_one h]
theorem decT_big {u : Nat} (h : ¬ u < 10) : decT u = decT (u / 10) ++ ⟨#[UInt8.ofNat (48 + u % 10)]⟩ := by
  apply ByteArray.ext
  rw [ByteArray.data_append]
  show (Lib.decDigits u).toArray = (Lib.decDigits (u / 10)).toArray ++ #[UInt8.ofNat (48 + u % 10)]
  rw [Lib.decDigits, dif_neg h]
  simp
theorem nvF_left {a b : ByteArray} : ∀ (k : Nat), k ≤ a.size → nvF (a ++ b) k = nvF a k
  | 0, _ => rfl
  | k + 1, h => by
    show 10 * nvF (a ++ b) k + (at8 (a ++ b) k - 48) = 10 * nvF a k + (at8 a k - 48)
    rw [nvF_left k (by omega), at8_left (by omega)]
theorem dig_nat {u : Nat} (h : u < 10) : ((UInt8.ofNat (48 + u)).toNat : Int) = 48 + (u : Int) := by
  rw [UInt8.toNat_ofNat']; omega
theorem decT_ok (u : Nat) : NumOK (decT u) ∧ (0 < u → at8 (decT u) 0 ≠ 48) ∧ nvF (decT u) (decT u).size = u := by
  induction u using Nat.strongRecOn with
  | _ u ih =>
    by_cases h : u < 10
    · rw [decT_small h]
      have hd := dig_nat h
      generalize UInt8.ofNat (48 + u) = x at *
      have e := at8_one x
      refine ⟨⟨by rw [size_one]; omega, fun i hi => ?_, fun h1 => by rw [size_one] at h1; omega⟩, fun hu => by rw [e]; omega, ?_⟩
      · rw [size_one] at hi
        obtain rfl : i = 0 := by omega
        rw [e]; omega
      · rw [size_one]
        show 10 * 0 + (at8 ⟨#[x]⟩ 0 - 48) = _
        rw [e]; omega
    · obtain ⟨⟨i1, i2, i3⟩, i4, i5⟩ := ih (u / 10) (by omega)
      rw [decT_big h]
      have hd := dig_nat (show u % 10 < 10 by omega)
      generalize decT (u / 10) = a at *
      generalize UInt8.ofNat (48 + u % 10) = x at *
      have hs : (a ++ ⟨#[x]⟩ : ByteArray).size = a.size + 1 := by rw [ByteArray.size_append, size_one]
      have e : at8 (a ++ ⟨#[x]⟩) a.size = (x.toNat : Int) := by
        have := at8_right (a := a) (b := ⟨#[x]⟩) (j := 0) (by show 0 < 1; omega)
        rw [Nat.add_zero] at this
        rw [this, at8_one]
      refine ⟨⟨by omega, fun i hi => ?_, fun _ => by rw [at8_left i1]; exact i4 (by omega)⟩, fun _ => by rw [at8_left i1]; exact i4 (by omega), ?_⟩
      · by_cases hi' : i < a.size
        · rw [at8_left hi']; exact i2 i hi'
        · obtain rfl : i = a.size := by omega
          rw [e]; omega
      · rw [hs]
        show 10 * nvF (a ++ ⟨#[x]⟩) a.size + (at8 (a ++ ⟨#[x]⟩) a.size - 48) = _
        rw [nvF_left _ (Nat.le_refl _), e, i5]; omega
theorem decT_len {u : Nat} (h : u ≤ 999999) : (decT u).size ≤ 6 := by
  obtain ⟨h1, _, h3⟩ := decT_ok u
  rcases Nat.lt_or_ge 6 (decT u).size with h6 | h6
  · have := nvF_lo h1 h6
    omega
  · exact h6
theorem numR_dec {u : Nat} (h : u ≤ 999999) : numR (decT u) 999999 = ((u : Int), 0) := by
  obtain ⟨h1, _, h3⟩ := decT_ok u
  unfold numR
  rw [if_pos h1, if_neg (by omega), h3, if_pos (by omega)]

theorem first_app {c : UInt8} {a rest : ByteArray} (h : ∀ j, j < a.size → at8 a j ≠ (c.toNat : Int)) : FirstC c (a ++ ⟨#[c]⟩ ++ rest) 0 a.size := by
  refine ⟨by omega, by rw [ByteArray.size_append, ByteArray.size_append]; omega, fun j _ hj => ?_, fun _ => ?_⟩
  · rw [ByteArray.append_assoc, at8_left hj]; exact h j hj
  · rw [ByteArray.append_assoc]
    have := at8_right (a := a) (b := ⟨#[c]⟩ ++ rest) (j := 0) (by rw [ByteArray.size_append, size_one]; omega)
    rw [Nat.add_zero] at this
    rw [this, at8_left (by show 0 < 1; omega)]
    exact at8_one c
theorem app_size {c : UInt8} {a rest : ByteArray} : (a ++ ⟨#[c]⟩ ++ rest).size = a.size + 1 + rest.size := by rw [ByteArray.size_append, ByteArray.size_append, size_one]
theorem app_head {c : UInt8} {a rest : ByteArray} : (a ++ ⟨#[c]⟩ ++ rest).extract 0 a.size = a := by
  rw [ByteArray.append_assoc, ByteArray.extract_append_eq_left rfl]
theorem app_tail {c : UInt8} {a rest : ByteArray} : (a ++ ⟨#[c]⟩ ++ rest).extract (a.size + 1) (a ++ ⟨#[c]⟩ ++ rest).size = rest :=
  ByteArray.extract_append_eq_right (by rw [ByteArray.size_append, size_one]) (by rw [ByteArray.size_append])
theorem parts_app {c : UInt8} {a rest : ByteArray} (h : ∀ j, j < a.size → at8 a j ≠ (c.toNat : Int)) : partsC c (a ++ ⟨#[c]⟩ ++ rest) = a :: partsC c rest := by
  rw [partsC_hit (first_app h) (by rw [app_size]; omega), app_head, app_tail]
theorem parts_none {c : UInt8} {a : ByteArray} (h : ∀ j, j < a.size → at8 a j ≠ (c.toNat : Int)) : partsC c a = [a] :=
  partsC_miss (i := a.size) ⟨by omega, by omega, fun j _ hj => h j hj, fun h => by omega⟩ (by omega)
theorem at8_app_no {a b : ByteArray} {x : Int} (ha : ∀ j, j < a.size → at8 a j ≠ x) (hb : ∀ j, j < b.size → at8 b j ≠ x) : ∀ j, j < (a ++ b).size → at8 (a ++ b) j ≠ x := fun j hj => by
  rw [ByteArray.size_append] at hj
  by_cases h : j < a.size
  · rw [at8_left h]; exact ha j h
  · have := at8_right (a := a) (b := b) (j := j - a.size) (by omega)
    rw [show a.size + (j - a.size) = j by omega] at this
    rw [this]; exact hb _ (by omega)
theorem one_no {c : UInt8} {x : Int} (h : (c.toNat : Int) ≠ x) : ∀ j, j < (⟨#[c]⟩ : ByteArray).size → at8 ⟨#[c]⟩ j ≠ x := fun j hj => by
  rw [size_one] at hj
  obtain rfl : j = 0 := by omega
  rw [at8_one]; exact h

end Go.Proofs.YtkkfnlehlkiejaaGreatDoor

/- The contracts of wildmat's Len, Verdict and Selects, by plain functions. -/
namespace Go.Proofs.YtkkfnlehlkiejaaGreatDoor
open Go.RowKit

theorem entsS_ok : ∀ (ps : List ByteArray) (a : Int) (acc es : List Ent), entsS ps a acc = .inl es → acc.length ≤ 64 → (∀ e ∈ acc, e.els.length ≤ 80) → es.length ≤ 64 ∧ ∀ e ∈ es, e.els.length ≤ 80
  | [], a, acc, es, h, h1, h2 => by simp [entsS] at h; subst h; exact ⟨h1, h2⟩
  | x :: r, a, acc, es, h, h1, h2 => by
    unfold entsS at h
    split at h
    · cases h
    · split at h
      · cases h
      · rename_i els hc
        refine entsS_ok r _ _ es h (by simp; omega) (fun e he => ?_)
        rcases List.mem_append.1 he with he | he
        · exact h2 e he
        · simp at he; subst he; exact compileR_len hc
theorem listR_ok {s : ByteArray} {es : List Ent} (h : listR s = .inl es) : es.length ≤ 64 ∧ ∀ e ∈ es, e.els.length ≤ 80 := by
  unfold listR at h
  split at h
  · cases h
  · exact entsS_ok _ _ _ _ h (by simp) (by simp)
theorem ListR.len {D : Nat → Prop} {w : World} {b : Nat} {s : ByteArray} {es : List Ent} (h : ListR D w b s es) : ∃ p c, w.cell? ⟨b, 1, none⟩ = some (.slice p es.length c) := by
  obtain ⟨p, n, c, bs, h1, h2, h3, h4, h5, h6⟩ := h
  have hn := h3.1
  rw [entC_length bs es h5] at hn
  obtain rfl : n = es.length := by omega
  exact ⟨p, c, cell_at h1 rfl⟩
theorem len_any {D : Nat → Prop} {w : World} {b : Nat} {s : ByteArray} {es : List Ent} (h : ListR D w b s es) :
    Calls Tryz.prog 67 #[.pointer (some ⟨b, 0, none⟩)] w fun e w' => e = .returned (.int .i64 es.length) ∧ w' = w := by
  obtain ⟨p, c, hc⟩ := h.len
  exact vc_len b 0 w _ ⟨p, es.length, c, by rw [Nat.zero_add]; exact hc, rfl, rfl⟩
/-- The verdict of a list on a name. -/
def verd (es : List Ent) (s : ByteArray) : Int := es.foldl (fun a e => if matchB e.els s = true then e.v else a) 0
theorem verd_snoc (es : List Ent) (e : Ent) (s : ByteArray) : verd (es ++ [e]) s = if matchB e.els s = true then e.v else verd es s := by simp [verd]
/-- The cells of an entry. -/
theorem ListR.ent {D : Nat → Prop} {w : World} {b : Nat} {s : ByteArray} {es : List Ent} (h : ListR D w b s es) {k : Nat} {e : Ent} (hk : es[k]? = some e) :
    ∃ g c b', w.cell? ⟨b, 1, none⟩ = some (.slice (some ⟨g, 0, none⟩) es.length c) ∧ w.cell? ⟨g, 0 + k * 2, none⟩ = some (.pointer (some ⟨b', 0, none⟩)) ∧ w.cell? ⟨g, 0 + k * 2 + 1, none⟩ = some (.int .i64 e.v) ∧ PatR D w b' e.t e.els := by
  obtain ⟨p, n, c, bs, h1, h2, h3, h4, h5, h6⟩ := h
  have hlt : k < es.length := (List.getElem?_eq_some_iff.1 hk).1
  have hn := h3.1
  rw [entC_length bs es h5] at hn
  obtain rfl : n = es.length := by omega
  obtain ⟨b', hb'⟩ : ∃ b', bs[k]? = some b' := ⟨_, List.getElem?_eq_getElem (by omega)⟩
  obtain ⟨g1, g2⟩ := entC_get bs es k b' e hb' hk
  rcases h3.2 with ⟨_, h0⟩ | ⟨g, cap, cur, hv, _, hg, hnc, _, hsz, ht⟩
  · omega
  · simp only [Value.slice.injEq, true_and] at hv
    have key : ∀ i v, i < es.length * 2 → (entC bs es)[i]? = some v → w.cell? ⟨g, i, none⟩ = some v := fun i v hi hv => by
      rw [cell_block hg]
      rw [← ht, List.getElem?_take, if_pos hi] at hv
      simpa using hv
    obtain ⟨rfl, rfl⟩ := hv
    refine ⟨g, c, b', cell_at h1 rfl, ?_, ?_, h6 k b' e hb' hk⟩
    · rw [Nat.zero_add]; exact key _ _ (by omega) g1
    · rw [Nat.zero_add]; exact key _ _ (by omega) g2
theorem verdict_any {D : Nat → Prop} {w : World} {b : Nat} {t : ByteArray} {es : List Ent} (h : ListR D w b t es) (h64 : es.length ≤ 64) (h80 : ∀ e ∈ es, e.els.length ≤ 80) (s : ByteArray) (hs : s.size ≤ 9223372036854775807) :
    Calls Tryz.prog 46 #[.pointer (some ⟨b, 0, none⟩), .string s] w fun e w' => e = .returned (.int .i64 (verd es s)) ∧ K0 w w' := by
  refine vc_verdict b 0 s w _ ⟨(len_any h).mono fun e w' ⟨he, hw⟩ => ⟨_, he, ?_⟩⟩
  subst hw
  rw [wr64 (by omega) (by omega)]
  refine ⟨fun vs w2 => ∃ k : Nat, vs = [.int .i64 ((k : Int) - 1)] ∧ k ≤ es.length ∧ verd es s = verd (es.take k) s ∧ K0 w' w2, fun vs _ => (match vs with | [.int _ x] => (x + 1).toNat | _ => 0),
    ⟨es.length, rfl, Nat.le_refl _, by rw [List.take_length], .refl _ _⟩, fun x w2 ⟨k, hv, hk, hS, hw2⟩ => ?_⟩
  simp only [List.cons.injEq, Value.int.injEq, true_and, and_true] at hv
  subst hv
  have h2 := h.kp hw2 (fun _ _ _ h => h)
  refine bsp_intro (fun hge => ?_) (fun hlt => ?_)
  · have hge : 1 ≤ k := by simp at hge; omega
    obtain ⟨j, rfl⟩ : ∃ j, k = j + 1 := ⟨k - 1, by omega⟩
    have ej : ((j + 1 : Nat) : Int) - 1 = (j : Int) := by omega
    rw [ej]
    have ej2 : (j : Int).toNat = j := by omega
    rw [ej2]
    obtain ⟨y, hy⟩ : ∃ y, es[j]? = some y := ⟨_, List.getElem?_eq_getElem (by omega)⟩
    have htk : es.take (j + 1) = es.take j ++ [y] := by rw [List.take_add_one, hy]; rfl
    rw [htk, verd_snoc] at hS
    obtain ⟨g, c, b', c1, c2, c3, hp⟩ := h2.ent hy
    refine ⟨_, _, _, by rw [Nat.zero_add]; exact c1, ?_⟩
    show (0 ≤ (j : Int) ∧ (j : Int) < (es.length : Int)) ∧ _
    refine ⟨⟨by omega, by omega⟩, _, c2, ⟨(match_any hp (by have := h80 y (List.mem_of_getElem? hy); omega) s hs).mono fun e w3 ⟨he, hk3⟩ => ⟨_, he, ?_⟩⟩⟩
    have h3 := h2.kp hk3 (fun _ _ _ h => h)
    refine bsp_intro (fun hm => ?_) (fun hm => ?_)
    · obtain ⟨g, c, b', c1, c2, c3, hp⟩ := h3.ent hy
      refine ⟨_, _, _, by rw [Nat.zero_add]; exact c1, ?_⟩
      show (0 ≤ (j : Int) ∧ (j : Int) < (es.length : Int)) ∧ _
      refine ⟨⟨by omega, by omega⟩, _, c3, ?_, hw2.trans hk3⟩
      rw [hS, if_pos hm]
    · rw [if_neg (by rw [hm]; decide)] at hS
      rw [wr64 (by omega) (by omega)]
      exact ⟨⟨j, rfl, by omega, hS, hw2.trans hk3⟩, by simp⟩
  · have : k = 0 := by simp at hlt; omega
    subst this
    refine ⟨?_, hw2⟩
    rw [hS]
    rfl

/-- A list accepts one of several names and poisons none of them. -/
def selB (es : List Ent) (zs : List ByteArray) : Bool := zs.all (fun z => !(verd es z == 3)) && zs.any (fun z => verd es z == 1)
end Go.Proofs.YtkkfnlehlkiejaaGreatDoor

/- Chapter 21, plain: names of groups, definitions, authorities. No program in sight. -/
namespace Go.Proofs.YtkkfnlehlkiejaaGreatDoor
open Go.RowKit

/-! ### Names of groups -/
/-- A text cut at each dot. -/
def partsD (s : ByteArray) : List ByteArray := Lib.splitB ⟨#[46]⟩ 0 (Lib.countB s ⟨#[46]⟩) s
theorem partsD_hit {s : ByteArray} {i : Nat} (h : FirstC 46 s 0 i) (hi : i < s.size) : partsD s = s.extract 0 i :: partsD (s.extract (i + 1) s.size) := by
  have hx : Lib.indexB s ⟨#[46]⟩ = i := by
    show Lib.index s.data.toList [46] = i
    rw [Lib.index_one]
    exact ixC_hit _ _ _ ((getC 46).2 ⟨hi, h.2.2.2 hi⟩) (fun j hj hc => h.2.2.1 j (by omega) hj ((getC 46).1 hc).2)
  unfold partsD
  rw [Lib.countB_hit s ⟨#[46]⟩ i (Nat.le_refl 1) hx, Nat.add_comm, Lib.splitB_hit _ _ _ _ i hx]
  rfl
theorem partsD_miss {s : ByteArray} {i : Nat} (h : FirstC 46 s 0 i) (hi : ¬ i < s.size) : partsD s = [s] := by
  have hx : Lib.indexB s ⟨#[46]⟩ = -1 := by
    show Lib.index s.data.toList [46] = -1
    rw [Lib.index_one]
    exact ixC_miss _ _ (fun j hc => h.2.2.1 j (by omega) (by have := ((getC 46).1 hc).1; have := h.2.1; omega) ((getC 46).1 hc).2)
  unfold partsD
  exact Lib.splitB_miss _ _ _ _ hx
def lowC (c : Int) : Bool := decide (97 ≤ c) && decide (c ≤ 122)
def compC (c : Int) : Bool := lowC c || (decide (48 ≤ c) && decide (c ≤ 57)) || c == 45 || c == 43 || c == 95
def compB (s : ByteArray) : Bool := decide (0 < s.size) && decide (s.size ≤ 20) && lowC (at8 s 0) && (List.range s.size).all fun i => compC (at8 s i)
def gnE (s : ByteArray) : Int := if 80 < s.size then 5 else if (partsD s).any (fun x => !compB x) = true then 12 else if 10 < (partsD s).length then 9 else 0

/-! ### Definitions -/
/-- The numbers of an array of 16 bytes. -/
def auI (f : Nat → Int) : List Int := (List.range 16).map f
theorem arrI_auI (f : Nat → Int) : arrI .u8 f 16 0 = (auI f).map (Value.int .u8) := rfl
theorem auI_get (f : Nat → Int) {j : Nat} (h : j < 16) : (auI f)[j]? = some (f j) := by simp [auI, h]
structure Df where
  id : Nat → Int
  au : Nat → Int
  g : ByteArray
  v : Int
  rm : Bool
  md : Bool
  ms : List (Nat → Int)
  tx : ByteArray
/-- What a definition says. -/
def Df.pl (d : Df) : List Int × List Int × ByteArray × Int × Bool × Bool × List (List Int) × ByteArray := (idI d.id, auI d.au, d.g, d.v, d.rm, d.md, d.ms.map auI, d.tx)
def dupE : List (List Int) → List (List Int) → Int
  | _, [] => 0
  | seen, a :: r => if a ∈ seen then 7 else dupE (seen ++ [a]) r
def dchk (d : Df) : Int := if gnE d.g ≠ 0 then gnE d.g else if d.v < 0 ∨ 1000000 < d.v then 2 else
  if d.rm = true ∧ (d.md = true ∨ 0 < d.ms.length ∨ d.tx.size ≠ 0) then 3 else if 8 < d.ms.length then 9 else
  if dupE [] (d.ms.map auI) ≠ 0 then 7 else if 200 < d.tx.size then 5 else 0
def dEq (a b : Df) : Bool := decide (idI a.id = idI b.id) && (decide (auI a.au = auI b.au) && (decide (a.g = b.g) && (a.v == b.v && (a.rm == b.rm && (a.md == b.md && (decide (a.ms.map auI = b.ms.map auI) && decide (a.tx = b.tx)))))))
theorem dEq_iff {a b : Df} : dEq a b = true ↔ a.pl = b.pl := by
  unfold dEq Df.pl
  simp only [Bool.and_eq_true, decide_eq_true_eq, beq_iff_eq, Prod.mk.injEq]
def dz : Df := ⟨fun _ => 0, fun _ => 0, ⟨#[]⟩, 0, false, false, [], ⟨#[]⟩⟩
/-- A definition with the place of its moderators. -/
structure DX where
  d : Df
  p : Option Addr
  c : Nat
def dfC (x : DX) : List Value := arrI .u8 x.d.id 32 0 ++ (arrI .u8 x.d.au 16 0 ++ ([.string x.d.g, .int .i64 x.d.v, .bool x.d.rm, .bool x.d.md, .slice x.p x.d.ms.length x.c, .string x.d.tx] : List Value))
theorem dfC_length (x : DX) : (dfC x).length = 54 := rfl
def auC (a : Nat → Int) : List Value := arrI .u8 a 16 0
theorem auC_length (a : Nat → Int) : (auC a).length = 16 := rfl

/-! ### Authorities -/
structure Au where
  pt : ByteArray
  au : Nat → Int
def atC (x : Au) : List Value := [.string x.pt] ++ arrI .u8 x.au 16 0
theorem atC_length (x : Au) : (atC x).length = 17 := rfl
/-- The index and the error of the first list that can't be read. -/
def newE : List Au → Nat → Nat × Int
  | [], _ => (0, 0)
  | x :: r, i => match listR x.pt with
    | .inl _ => newE r (i + 1)
    | .inr (_, e) => (i, e)
def isAu (l : List Au) (g : ByteArray) (a : Nat → Int) : Bool := l.any fun x => decide (auI x.au = auI a) && (match listR x.pt with | .inl es => verd es g == 1 | .inr _ => false)

end Go.Proofs.YtkkfnlehlkiejaaGreatDoor

/- The formulas of functions by the symbolic evaluator, and that each gives the call's contract. Written by a program (gen.py). No condition. -/
namespace Go.Proofs.YtkkfnlehlkiejaaGreatDoor
set_option maxRecDepth 100000
set_option linter.unusedVariables false

def VC_bidx (p : Option Addr) (n : Nat) (c : Nat) (f : FuncId) (fa : Array Value) (fb : Array Value) (w : World) (R : Ending → World → Prop) : Prop :=
 ∃ (I : List Value → World → Prop),
 ∃ (m : List Value → World → Nat),
 I [Value.int IntKind.i64 0] w ∧
 ∀ (x : Int) (w' : World),
 I [Value.int IntKind.i64 x] w' →
 bsp (decide (x < (↑n : Int)))
 (nn true p fun (b o : Nat) =>
 (0 ≤ x ∧ x < (↑n : Int)) ∧
 ∃ (x_1 : Int),
 w'.cell? (Addr.mk b (o + x.toNat) none) = some (Value.int IntKind.u8 x_1) ∧
 ∃ (f_1 : Nat),
 ∃ (a : Array Value),
 ∃ (b : Array Value),
 Value.func (Fn.func f) fa fb = Value.func (Fn.func f_1) a b ∧
 okFn Tryz.prog f_1 = true ∧
 CallsS Tryz.prog f_1 (appA a [Value.int IntKind.u8 x_1] b) w' fun (e : Ending) (w'_1 : World) =>
 ∃ (x_2 : Bool),
 e = Ending.returned (Value.bool x_2) ∧
 KeptL [] w' w'_1 ∧
 bsp x_2 (R (Ending.returned (Value.int IntKind.i64 x)) w'_1)
 (I [Value.int IntKind.i64 (IntKind.i64.wrap (x + 1))] w'_1 ∧
 m [Value.int IntKind.i64 (IntKind.i64.wrap (x + 1))] w'_1 < m [Value.int IntKind.i64 x] w'))
 (R (Ending.returned (Value.int IntKind.i64 (-1))) w')
theorem vc_bidx (p : Option Addr) (n : Nat) (c : Nat) (f : FuncId) (fa : Array Value) (fb : Array Value) (w : World) (R : Ending → World → Prop) (h : VC_bidx p n c f fa fb w R) : Calls Tryz.prog 120 ([Value.slice
    p n c,
  Value.func (Fn.func f) fa fb] : List Value).toArray w R := by
  have e : execR2 { P := Tryz.prog, loops := [(2, [(8, Ck.int IntKind.i64)])], pur := pur1, tails := [], joins := [], boxes := [] } Tryz.f120.results.toList R (Tryz.f120.body.getD .skip) (initF [Value.slice
    p n c,
  Value.func (Fn.func f) fa
    fb] (Tryz.f120.ntmps - ([Value.slice p n c,
  Value.func (Fn.func f) fa fb] : List Value).length)) w = VC_bidx p n c f fa fb w R := by kernel_rfl
  have hb : Tryz.f120.body = some (Tryz.f120.body.getD .skip) := by kernel_rfl
  exact calls_of_exec2' (P := Tryz.prog) (fn := Tryz.f120) (c := Tryz.f120.body.getD .skip) (args := [Value.slice p n c,
  Value.func (Fn.func f) fa fb]) (w := w) (R := R) pur1_ok Tryz.func120 hb e h

def VC_bcon (p : Option Addr) (n : Nat) (c : Nat) (f : FuncId) (fa : Array Value) (fb : Array Value) (w : World) (R : Ending → World → Prop) : Prop :=
 CallsS Tryz.prog 120 #[Value.slice p n c, Value.func (Fn.func f) fa fb] w fun (e : Ending) (w' : World) =>
 ∃ (x : Int),
 e = Ending.returned (Value.int IntKind.i64 x) ∧ KeptL [] w w' ∧ R (Ending.returned (Value.bool (decide (x ≥ 0)))) w'
theorem vc_bcon (p : Option Addr) (n : Nat) (c : Nat) (f : FuncId) (fa : Array Value) (fb : Array Value) (w : World) (R : Ending → World → Prop) (h : VC_bcon p n c f fa fb w R) : Calls Tryz.prog 100 ([Value.slice
    p n c,
  Value.func (Fn.func f) fa fb] : List Value).toArray w R := by
  have e : execR2 { P := Tryz.prog, loops := [], pur := pur1, tails := [], joins := [], boxes := [] } Tryz.f100.results.toList R (Tryz.f100.body.getD .skip) (initF [Value.slice
    p n c,
  Value.func (Fn.func f) fa
    fb] (Tryz.f100.ntmps - ([Value.slice p n c,
  Value.func (Fn.func f) fa fb] : List Value).length)) w = VC_bcon p n c f fa fb w R := by kernel_rfl
  have hb : Tryz.f100.body = some (Tryz.f100.body.getD .skip) := by kernel_rfl
  exact calls_of_exec2' (P := Tryz.prog) (fn := Tryz.f100) (c := Tryz.f100.body.getD .skip) (args := [Value.slice p n c,
  Value.func (Fn.func f) fa fb]) (w := w) (R := R) pur1_ok Tryz.func100 hb e h

def VC_sidx (p : Option Addr) (n : Nat) (c : Nat) (f : FuncId) (fa : Array Value) (fb : Array Value) (w : World) (R : Ending → World → Prop) : Prop :=
 ∃ (I : List Value → World → Prop),
 ∃ (m : List Value → World → Nat),
 I [Value.int IntKind.i64 0] w ∧
 ∀ (x : Int) (w' : World),
 I [Value.int IntKind.i64 x] w' →
 bsp (decide (x < (↑n : Int)))
 (nn true p fun (b o : Nat) =>
 (0 ≤ x ∧ x < (↑n : Int)) ∧
 ∃ (x_1 : ByteArray),
 w'.cell? (Addr.mk b (o + x.toNat) none) = some (Value.string x_1) ∧
 ∃ (f_1 : Nat),
 ∃ (a : Array Value),
 ∃ (b : Array Value),
 Value.func (Fn.func f) fa fb = Value.func (Fn.func f_1) a b ∧
 okFn Tryz.prog f_1 = true ∧
 CallsS Tryz.prog f_1 (appA a [Value.string x_1] b) w' fun (e : Ending) (w'_1 : World) =>
 ∃ (x_2 : Bool),
 e = Ending.returned (Value.bool x_2) ∧
 KeptL [] w' w'_1 ∧
 bsp x_2 (R (Ending.returned (Value.int IntKind.i64 x)) w'_1)
 (I [Value.int IntKind.i64 (IntKind.i64.wrap (x + 1))] w'_1 ∧
 m [Value.int IntKind.i64 (IntKind.i64.wrap (x + 1))] w'_1 < m [Value.int IntKind.i64 x] w'))
 (R (Ending.returned (Value.int IntKind.i64 (-1))) w')
theorem vc_sidx (p : Option Addr) (n : Nat) (c : Nat) (f : FuncId) (fa : Array Value) (fb : Array Value) (w : World) (R : Ending → World → Prop) (h : VC_sidx p n c f fa fb w R) : Calls Tryz.prog 98 ([Value.slice
    p n c,
  Value.func (Fn.func f) fa fb] : List Value).toArray w R := by
  have e : execR2 { P := Tryz.prog, loops := [(2, [(8, Ck.int IntKind.i64)])], pur := pur1, tails := [], joins := [], boxes := [] } Tryz.f98.results.toList R (Tryz.f98.body.getD .skip) (initF [Value.slice
    p n c,
  Value.func (Fn.func f) fa
    fb] (Tryz.f98.ntmps - ([Value.slice p n c,
  Value.func (Fn.func f) fa fb] : List Value).length)) w = VC_sidx p n c f fa fb w R := by kernel_rfl
  have hb : Tryz.f98.body = some (Tryz.f98.body.getD .skip) := by kernel_rfl
  exact calls_of_exec2' (P := Tryz.prog) (fn := Tryz.f98) (c := Tryz.f98.body.getD .skip) (args := [Value.slice p n c,
  Value.func (Fn.func f) fa fb]) (w := w) (R := R) pur1_ok Tryz.func98 hb e h

def VC_scon (p : Option Addr) (n : Nat) (c : Nat) (f : FuncId) (fa : Array Value) (fb : Array Value) (w : World) (R : Ending → World → Prop) : Prop :=
 CallsS Tryz.prog 98 #[Value.slice p n c, Value.func (Fn.func f) fa fb] w fun (e : Ending) (w' : World) =>
 ∃ (x : Int),
 e = Ending.returned (Value.int IntKind.i64 x) ∧ KeptL [] w w' ∧ R (Ending.returned (Value.bool (decide (x ≥ 0)))) w'
theorem vc_scon (p : Option Addr) (n : Nat) (c : Nat) (f : FuncId) (fa : Array Value) (fb : Array Value) (w : World) (R : Ending → World → Prop) (h : VC_scon p n c f fa fb w R) : Calls Tryz.prog 79 ([Value.slice
    p n c,
  Value.func (Fn.func f) fa fb] : List Value).toArray w R := by
  have e : execR2 { P := Tryz.prog, loops := [], pur := pur1, tails := [], joins := [], boxes := [] } Tryz.f79.results.toList R (Tryz.f79.body.getD .skip) (initF [Value.slice
    p n c,
  Value.func (Fn.func f) fa
    fb] (Tryz.f79.ntmps - ([Value.slice p n c,
  Value.func (Fn.func f) fa fb] : List Value).length)) w = VC_scon p n c f fa fb w R := by kernel_rfl
  have hb : Tryz.f79.body = some (Tryz.f79.body.getD .skip) := by kernel_rfl
  exact calls_of_exec2' (P := Tryz.prog) (fn := Tryz.f79) (c := Tryz.f79.body.getD .skip) (args := [Value.slice p n c,
  Value.func (Fn.func f) fa fb]) (w := w) (R := R) pur1_ok Tryz.func79 hb e h

def VC_gisl (c : Int) (w : World) (R : Ending → World → Prop) : Prop :=
 R (Ending.returned (Value.bool (decide (c ≥ 97) && decide (c ≤ 122)))) w
theorem vc_gisl (c : Int) (w : World) (R : Ending → World → Prop) (h : VC_gisl c w R) : Calls Tryz.prog 99 ([Value.int
    IntKind.u8 c] : List Value).toArray w R := by
  have e : execR2 { P := Tryz.prog, loops := [], pur := pur1, tails := [], joins := [], boxes := [] } Tryz.f99.results.toList R (Tryz.f99.body.getD .skip) (initF [Value.int
    IntKind.u8 c] (Tryz.f99.ntmps - ([Value.int IntKind.u8 c] : List Value).length)) w = VC_gisl c w R := by kernel_rfl
  have hb : Tryz.f99.body = some (Tryz.f99.body.getD .skip) := by kernel_rfl
  exact calls_of_exec2' (P := Tryz.prog) (fn := Tryz.f99) (c := Tryz.f99.body.getD .skip) (args := [Value.int IntKind.u8
    c]) (w := w) (R := R) pur1_ok Tryz.func99 hb e h

def VC_gcomp (s : ByteArray) (w : World) (R : Ending → World → Prop) : Prop :=
 gimp (!(s.toList == [] || decide ((↑s.size : Int) > 20))) ((0 : Int) ≤ 0 ∧ 0 < (↑s.size : Int)) ∧
 bsp (!(s.toList == [] || decide ((↑s.size : Int) > 20)))
 (CallsS Tryz.prog 99 #[Value.int IntKind.u8 (at8 s 0)] w fun (e : Ending) (w' : World) =>
 ∃ (x : Bool),
 e = Ending.returned (Value.bool x) ∧
 KeptL [] w w' ∧
 bsp (false || !x) (R (Ending.returned (Value.bool false)) w')
 (∀ (c n : Nat) (w1 : World),
 s.size ≤ c →
 NewB w'.drew (Obj.cells (bytesRow s c) 5 ((bytesRow s c).size, (bytesRow s c).size + 1)) n w1 →
 KeptL [] w' w1 ∧
 CallsS Tryz.prog 100 #[Value.slice (some (Addr.mk n 0 none)) s.size c, Value.func (Fn.func 101) #[] #[]] w1
 fun (e : Ending) (w' : World) =>
 ∃ (x : Bool), e = Ending.returned (Value.bool x) ∧ KeptL [] w1 w' ∧ R (Ending.returned (Value.bool !x)) w'))
 (KeptL [] w w ∧ R (Ending.returned (Value.bool false)) w)
theorem vc_gcomp (s : ByteArray) (w : World) (R : Ending → World → Prop) (h : VC_gcomp s w R) : Calls Tryz.prog 81 ([Value.string
    s] : List Value).toArray w R := by
  have e : execR2 { P := Tryz.prog, loops := [], pur := pur1, tails := [], joins := [], boxes := [] } Tryz.f81.results.toList R (Tryz.f81.body.getD .skip) (initF [Value.string
    s] (Tryz.f81.ntmps - ([Value.string s] : List Value).length)) w = VC_gcomp s w R := by kernel_rfl
  have hb : Tryz.f81.body = some (Tryz.f81.body.getD .skip) := by kernel_rfl
  exact calls_of_exec2' (P := Tryz.prog) (fn := Tryz.f81) (c := Tryz.f81.body.getD .skip) (args := [Value.string
    s]) (w := w) (R := R) pur1_ok Tryz.func81 hb e h

def VC_gcompC (c : Int) (w : World) (R : Ending → World → Prop) : Prop :=
 CallsS Tryz.prog 99 #[Value.int IntKind.u8 c] w fun (e : Ending) (w' : World) =>
 ∃ (x : Bool),
 e = Ending.returned (Value.bool x) ∧
 KeptL [] w w' ∧
 R (Ending.returned (Value.bool (!x && (decide (c < 48) || decide (c > 57)) && c != 45 && c != 43 && c != 95))) w'
theorem vc_gcompC (c : Int) (w : World) (R : Ending → World → Prop) (h : VC_gcompC c w R) : Calls Tryz.prog 101 ([Value.int
    IntKind.u8 c] : List Value).toArray w R := by
  have e : execR2 { P := Tryz.prog, loops := [], pur := pur1, tails := [], joins := [], boxes := [] } Tryz.f101.results.toList R (Tryz.f101.body.getD .skip) (initF [Value.int
    IntKind.u8
    c] (Tryz.f101.ntmps - ([Value.int IntKind.u8 c] : List Value).length)) w = VC_gcompC c w R := by kernel_rfl
  have hb : Tryz.f101.body = some (Tryz.f101.body.getD .skip) := by kernel_rfl
  exact calls_of_exec2' (P := Tryz.prog) (fn := Tryz.f101) (c := Tryz.f101.body.getD .skip) (args := [Value.int
    IntKind.u8 c]) (w := w) (R := R) pur1_ok Tryz.func101 hb e h

def VC_gcheck (s : ByteArray) (w : World) (R : Ending → World → Prop) : Prop :=
 bsp (decide ((↑s.size : Int) > 80)) (R (Ending.returned (Value.int IntKind.i64 5)) w)
 (CallsS Tryz.prog 78 #[Value.string s] w fun (e : Ending) (w' : World) =>
 ∃ (p : Option Addr),
 ∃ (n : Nat),
 ∃ (c : Nat),
 e = Ending.returned (Value.slice p n c) ∧
 KeptL [] w w' ∧
 CallsS Tryz.prog 79 #[Value.slice p n c, Value.func (Fn.func 80) #[] #[]] w' fun (e : Ending) (w'_1 : World) =>
 ∃ (x : Bool),
 e = Ending.returned (Value.bool x) ∧
 KeptL [] w' w'_1 ∧
 bsp x (R (Ending.returned (Value.int IntKind.i64 12)) w'_1)
 (bsp (decide ((↑n : Int) > 10)) (R (Ending.returned (Value.int IntKind.i64 9)) w'_1)
 (R (Ending.returned (Value.int IntKind.i64 0)) w'_1)))
theorem vc_gcheck (s : ByteArray) (w : World) (R : Ending → World → Prop) (h : VC_gcheck s w R) : Calls Tryz.prog 54 ([Value.string
    s] : List Value).toArray w R := by
  have e : execR2 { P := Tryz.prog, loops := [], pur := pur1, tails := [], joins := [], boxes := [] } Tryz.f54.results.toList R (Tryz.f54.body.getD .skip) (initF [Value.string
    s] (Tryz.f54.ntmps - ([Value.string s] : List Value).length)) w = VC_gcheck s w R := by kernel_rfl
  have hb : Tryz.f54.body = some (Tryz.f54.body.getD .skip) := by kernel_rfl
  exact calls_of_exec2' (P := Tryz.prog) (fn := Tryz.f54) (c := Tryz.f54.body.getD .skip) (args := [Value.string
    s]) (w := w) (R := R) pur1_ok Tryz.func54 hb e h

def VC_gcheckC (s : ByteArray) (w : World) (R : Ending → World → Prop) : Prop :=
 CallsS Tryz.prog 81 #[Value.string s] w fun (e : Ending) (w' : World) =>
 ∃ (x : Bool), e = Ending.returned (Value.bool x) ∧ KeptL [] w w' ∧ R (Ending.returned (Value.bool !x)) w'
theorem vc_gcheckC (s : ByteArray) (w : World) (R : Ending → World → Prop) (h : VC_gcheckC s w R) : Calls Tryz.prog 80 ([Value.string
    s] : List Value).toArray w R := by
  have e : execR2 { P := Tryz.prog, loops := [], pur := pur1, tails := [], joins := [], boxes := [] } Tryz.f80.results.toList R (Tryz.f80.body.getD .skip) (initF [Value.string
    s] (Tryz.f80.ntmps - ([Value.string s] : List Value).length)) w = VC_gcheckC s w R := by kernel_rfl
  have hb : Tryz.f80.body = some (Tryz.f80.body.getD .skip) := by kernel_rfl
  exact calls_of_exec2' (P := Tryz.prog) (fn := Tryz.f80) (c := Tryz.f80.body.getD .skip) (args := [Value.string
    s]) (w := w) (R := R) pur1_ok Tryz.func80 hb e h

def VC_gparts (s : ByteArray) (w : World) (R : Ending → World → Prop) : Prop :=
 CallsS Tryz.prog 59 #[Value.string s, Value.string (ByteArray.mk #[46])] w fun (e : Ending) (w' : World) =>
 ∃ (p : Option Addr),
 ∃ (n : Nat),
 ∃ (c : Nat), e = Ending.returned (Value.slice p n c) ∧ KeptL [] w w' ∧ R (Ending.returned (Value.slice p n c)) w'
theorem vc_gparts (s : ByteArray) (w : World) (R : Ending → World → Prop) (h : VC_gparts s w R) : Calls Tryz.prog 78 ([Value.string
    s] : List Value).toArray w R := by
  have e : execR2 { P := Tryz.prog, loops := [], pur := pur1, tails := [], joins := [], boxes := [] } Tryz.f78.results.toList R (Tryz.f78.body.getD .skip) (initF [Value.string
    s] (Tryz.f78.ntmps - ([Value.string s] : List Value).length)) w = VC_gparts s w R := by kernel_rfl
  have hb : Tryz.f78.body = some (Tryz.f78.body.getD .skip) := by kernel_rfl
  exact calls_of_exec2' (P := Tryz.prog) (fn := Tryz.f78) (c := Tryz.f78.body.getD .skip) (args := [Value.string
    s]) (w := w) (R := R) pur1_ok Tryz.func78 hb e h

def VC_xparts (s : ByteArray) (c : Int) (w : World) (R : Ending → World → Prop) : Prop :=
 ∃ (I : List Value → World → Prop),
 ∃ (m : List Value → World → Nat),
 I [Value.int IntKind.i64 0, Value.string (ByteArray.mk #[]), Value.slice none 0 0] w ∧
 ∀ (x : Int) (x_1 : ByteArray) (p : Option Addr) (n c_1 : Nat) (w' : World),
 I [Value.int IntKind.i64 x, Value.string x_1, Value.slice p n c_1] w' →
 bsp (decide (x < (↑s.size : Int)))
 ((0 ≤ x ∧ x < (↑s.size : Int)) ∧
 bsp (at8 s x.toNat == c)
 (∀ (n_1 : Nat) (W : World),
 Loc w.heap.size [Blk.mk n_1 9 [Value.string x_1] 2] w' W →
 ∃ (base : Nat),
 ∃ (xs : List Value),
 W.ownsRow base 9 1 (Value.slice p n c_1) n xs ∧
 n + 1 ≤ 9223372036854775807 ∧
 (n + 1) * 16 ≤ 140737488355328 ∧
 base ≤ W.heap.size ∧
 ∀ (p' : Option Addr) (c' : Nat) (w'_1 : World),
 w'_1.ownsRow base 9 1 (Value.slice p' (n + 1) c') (n + 1) (xs ++ [Value.string x_1]) →
 W.grownBy w'_1 (Value.slice p n c_1).ownBlock →
 (n + 1 ≤ c_1 → p' = p ∧ c' = c_1) →
 KeptL [] W w'_1 ∧
 I
 [Value.int IntKind.i64 (IntKind.i64.wrap (x + 1)), Value.string (ByteArray.mk #[]),
 Value.slice p' (n + 1) c']
 w'_1 ∧
 m
 [Value.int IntKind.i64 (IntKind.i64.wrap (x + 1)), Value.string (ByteArray.mk #[]),
 Value.slice p' (n + 1) c']
 w'_1 <
 m [Value.int IntKind.i64 x, Value.string x_1, Value.slice p n c_1] w')
 ((0 ≤ x ∧ x ≤ IntKind.i64.wrap (x + 1) ∧ IntKind.i64.wrap (x + 1) ≤ (↑s.size : Int)) ∧
 (9223372036854775807 -
 (↑(x_1.size + (s.extract x.toNat (IntKind.i64.wrap (x + 1)).toNat).size) : Int)).NonNeg ∧
 I
 [Value.int IntKind.i64 (IntKind.i64.wrap (x + 1)),
 Value.string (x_1 ++ s.extract x.toNat (IntKind.i64.wrap (x + 1)).toNat), Value.slice p n c_1]
 w' ∧
 m
 [Value.int IntKind.i64 (IntKind.i64.wrap (x + 1)),
 Value.string (x_1 ++ s.extract x.toNat (IntKind.i64.wrap (x + 1)).toNat), Value.slice p n c_1]
 w' <
 m [Value.int IntKind.i64 x, Value.string x_1, Value.slice p n c_1] w'))
 (∀ (n_1 : Nat) (W : World),
 Loc w.heap.size [Blk.mk n_1 9 [Value.string x_1] 2] w' W →
 ∃ (base : Nat),
 ∃ (xs : List Value),
 W.ownsRow base 9 1 (Value.slice p n c_1) n xs ∧
 n + 1 ≤ 9223372036854775807 ∧
 (n + 1) * 16 ≤ 140737488355328 ∧
 base ≤ W.heap.size ∧
 ∀ (p' : Option Addr) (c' : Nat) (w' : World),
 w'.ownsRow base 9 1 (Value.slice p' (n + 1) c') (n + 1) (xs ++ [Value.string x_1]) →
 W.grownBy w' (Value.slice p n c_1).ownBlock →
 (n + 1 ≤ c_1 → p' = p ∧ c' = c_1) → KeptL [] W w' ∧ R (Ending.returned (Value.slice p' (n + 1) c')) w')
theorem vc_xparts (s : ByteArray) (c : Int) (w : World) (R : Ending → World → Prop) (h : VC_xparts s c w R) : Calls Tryz.prog 82 ([Value.string
    s,
  Value.int IntKind.u8 c] : List Value).toArray w R := by
  have e : execR2 { P := Tryz.prog, loops := [(4, [(7, Ck.int IntKind.i64), (6, Ck.str), (5, Ck.slice)])], pur := pur1, tails := [], joins := [], boxes := [] } Tryz.f82.results.toList R (Tryz.f82.body.getD .skip) (initF [Value.string
    s,
  Value.int IntKind.u8
    c] (Tryz.f82.ntmps - ([Value.string s,
  Value.int IntKind.u8 c] : List Value).length)) w = VC_xparts s c w R := by kernel_rfl
  have hb : Tryz.f82.body = some (Tryz.f82.body.getD .skip) := by kernel_rfl
  exact calls_of_exec2' (P := Tryz.prog) (fn := Tryz.f82) (c := Tryz.f82.body.getD .skip) (args := [Value.string s,
  Value.int IntKind.u8 c]) (w := w) (R := R) pur1_ok Tryz.func82 hb e h

def VC_xcomp (s : ByteArray) (w : World) (R : Ending → World → Prop) : Prop :=
 gimp (!(decide ((↑s.size : Int) < 1) || decide ((↑s.size : Int) > 20))) ((0 : Int) ≤ 0 ∧ 0 < (↑s.size : Int)) ∧
 gimp (!(decide ((↑s.size : Int) < 1) || decide ((↑s.size : Int) > 20) || decide (at8 s (Int.toNat 0) < 97)))
 ((0 : Int) ≤ 0 ∧ 0 < (↑s.size : Int)) ∧
 bsp
 (decide ((↑s.size : Int) < 1) || decide ((↑s.size : Int) > 20) || decide (at8 s (Int.toNat 0) < 97) ||
 decide (at8 s (Int.toNat 0) > 122))
 (R (Ending.returned (Value.bool false)) w)
 (∃ (I : List Value → World → Prop),
 ∃ (m : List Value → World → Nat),
 I [Value.int IntKind.i64 1] w ∧
 ∀ (x : Int) (w' : World),
 I [Value.int IntKind.i64 x] w' →
 bsp (decide (x < (↑s.size : Int)))
 ((0 ≤ x ∧ x < (↑s.size : Int)) ∧
 bsp
 (!(decide (at8 s x.toNat ≥ 97) && decide (at8 s x.toNat ≤ 122) ||
 decide (at8 s x.toNat ≥ 48) && decide (at8 s x.toNat ≤ 57) ||
 at8 s x.toNat == 45 ||
 at8 s x.toNat == 43 ||
 at8 s x.toNat == 95))
 (R (Ending.returned (Value.bool false)) w')
 (I [Value.int IntKind.i64 (IntKind.i64.wrap (x + 1))] w' ∧
 m [Value.int IntKind.i64 (IntKind.i64.wrap (x + 1))] w' < m [Value.int IntKind.i64 x] w'))
 (R (Ending.returned (Value.bool true)) w'))
theorem vc_xcomp (s : ByteArray) (w : World) (R : Ending → World → Prop) (h : VC_xcomp s w R) : Calls Tryz.prog 83 ([Value.string
    s] : List Value).toArray w R := by
  have e : execR2 { P := Tryz.prog, loops := [(4, [(3, Ck.int IntKind.i64)])], pur := pur1, tails := [], joins := [], boxes := [] } Tryz.f83.results.toList R (Tryz.f83.body.getD .skip) (initF [Value.string
    s] (Tryz.f83.ntmps - ([Value.string s] : List Value).length)) w = VC_xcomp s w R := by kernel_rfl
  have hb : Tryz.f83.body = some (Tryz.f83.body.getD .skip) := by kernel_rfl
  exact calls_of_exec2' (P := Tryz.prog) (fn := Tryz.f83) (c := Tryz.f83.body.getD .skip) (args := [Value.string
    s]) (w := w) (R := R) pur1_ok Tryz.func83 hb e h

def VC_xgcheck (s : ByteArray) (w : World) (R : Ending → World → Prop) : Prop :=
 bsp (decide ((↑s.size : Int) > 80)) (R (Ending.returned (Value.int IntKind.i64 5)) w)
 (CallsS Tryz.prog 82 #[Value.string s, Value.int IntKind.u8 46] w fun (e : Ending) (w' : World) =>
 ∃ (p : Option Addr),
 ∃ (n : Nat),
 ∃ (c : Nat),
 e = Ending.returned (Value.slice p n c) ∧
 KeptL [] w w' ∧
 ∃ (I : List Value → World → Prop),
 ∃ (m : List Value → World → Nat),
 I [Value.int IntKind.i64 0] w' ∧
 ∀ (x : Int) (w' : World),
 I [Value.int IntKind.i64 x] w' →
 bsp (decide (x < (↑n : Int)))
 (nn true p fun (b o : Nat) =>
 (0 ≤ x ∧ x < (↑n : Int)) ∧
 ∃ (x_1 : ByteArray),
 w'.cell? (Addr.mk b (o + x.toNat) none) = some (Value.string x_1) ∧
 CallsS Tryz.prog 83 #[Value.string x_1] w' fun (e : Ending) (w'_1 : World) =>
 ∃ (x_2 : Bool),
 e = Ending.returned (Value.bool x_2) ∧
 KeptL [] w' w'_1 ∧
 bsp (!x_2) (R (Ending.returned (Value.int IntKind.i64 12)) w'_1)
 (I [Value.int IntKind.i64 (IntKind.i64.wrap (x + 1))] w'_1 ∧
 m [Value.int IntKind.i64 (IntKind.i64.wrap (x + 1))] w'_1 < m [Value.int IntKind.i64 x] w'))
 (bsp (decide ((↑n : Int) > 10)) (R (Ending.returned (Value.int IntKind.i64 9)) w')
 (R (Ending.returned (Value.int IntKind.i64 0)) w')))
theorem vc_xgcheck (s : ByteArray) (w : World) (R : Ending → World → Prop) (h : VC_xgcheck s w R) : Calls Tryz.prog 55 ([Value.string
    s] : List Value).toArray w R := by
  have e : execR2 { P := Tryz.prog, loops := [(5, [(4, Ck.int IntKind.i64)])], pur := pur1, tails := [], joins := [], boxes := [] } Tryz.f55.results.toList R (Tryz.f55.body.getD .skip) (initF [Value.string
    s] (Tryz.f55.ntmps - ([Value.string s] : List Value).length)) w = VC_xgcheck s w R := by kernel_rfl
  have hb : Tryz.f55.body = some (Tryz.f55.body.getD .skip) := by kernel_rfl
  exact calls_of_exec2' (P := Tryz.prog) (fn := Tryz.f55) (c := Tryz.f55.body.getD .skip) (args := [Value.string
    s]) (w := w) (R := R) pur1_ok Tryz.func55 hb e h

end Go.Proofs.YtkkfnlehlkiejaaGreatDoor

/- Chapter 21: the contracts of groupname.Check and of the reference's Check of a name. The library's variable MaxLen holds a number. -/
namespace Go.Proofs.YtkkfnlehlkiejaaGreatDoor
open Go.RowKit

theorem nn_is {g : Bool} {p : Option Addr} {b o : Nat} {K : Nat → Nat → Prop} (hp : p = some ⟨b, o, none⟩) (h : K b o) : nn g p K := by subst hp; exact h
theorem nneg {a : Nat} (h : a ≤ 4611686018427387904) : ((9223372036854775807 : Int) - (a : Int)).NonNeg :=
  Int.nonneg_def.2 ⟨9223372036854775807 - a, by omega⟩
theorem str_get {w : World} {p : Option Addr} {zs : List ByteArray} (h : StrP w p zs) {k : Nat} (hk : k < zs.length) : ∃ z b o, zs[k]? = some z ∧ p = some ⟨b, o, none⟩ ∧ w.cell? ⟨b, o + k, none⟩ = some (.string z) := h.get hk
theorem bcon_any (s : ByteArray) (b c : Nat) (f : FuncId) (fa fb : Array Value) (g : Int → Bool) (w : World) (hS : ∀ k, k < s.size → w.cell? ⟨b, 0 + k, none⟩ = some (.int .u8 (at8 s k))) (hs : s.size ≤ 1073741824) (hok : okFn Tryz.prog f = true)
    (hF : ∀ x, ∀ w1, K0 w w1 → Calls Tryz.prog f (appA fa [.int .u8 x] fb) w1 fun e w2 => e = .returned (.bool (g x)) ∧ K0 w1 w2) :
    Calls Tryz.prog 100 #[.slice (some ⟨b, 0, none⟩) s.size c, .func (.func f) fa fb] w fun e w' => e = .returned (.bool ((List.range s.size).any fun i => g (at8 s i))) ∧ K0 w w' := by
  have hidx : Calls Tryz.prog 120 #[.slice (some ⟨b, 0, none⟩) s.size c, .func (.func f) fa fb] w fun e w' => (∃ x : Int, e = .returned (.int .i64 x) ∧ decide (x ≥ 0) = (List.range s.size).any fun i => g (at8 s i)) ∧ K0 w w' := by
    refine vc_bidx (some ⟨b, 0, none⟩) s.size c f fa fb w _ ?_
    refine ⟨fun vs w' => ∃ i : Nat, vs = [.int .i64 (i : Int)] ∧ i ≤ s.size ∧ (∀ j, j < i → g (at8 s j) = false) ∧ K0 w w',
      fun vs _ => (match vs with | .int _ x :: _ => s.size - x.toNat | _ => 0), ⟨0, rfl, by omega, (fun j h => by omega), .refl _ _⟩, ?_⟩
    rintro x w1 ⟨i, hv, hi, hall, k1⟩
    simp only [List.cons.injEq, Value.int.injEq, true_and, and_true] at hv
    subst hv
    refine bsp_intro (fun hlt => ?_) (fun hge => ?_)
    · have hlt : i < s.size := by simp at hlt; omega
      rw [Int.toNat_natCast]
      refine nn_is rfl ⟨⟨by omega, by omega⟩, at8 s i, k1.cell' (hS i hlt) (fun h => h), f, fa, fb, rfl, hok, ⟨(hF (at8 s i) w1 k1).mono fun e w2 ⟨he, k2⟩ => ⟨_, he, .of_k0 k2, bsp_intro (fun hg => ?_) (fun hg => ?_)⟩⟩⟩
      · refine ⟨⟨i, rfl, ?_⟩, k1.trans k2⟩
        have : ((List.range s.size).any fun i => g (at8 s i)) = true := List.any_eq_true.2 ⟨i, List.mem_range.2 hlt, hg⟩
        rw [this]; simp
      · refine ⟨⟨i + 1, by rw [inc64 (by omega)], hlt, fun j hj => ?_, k1.trans k2⟩, by rw [inc64 (by omega)]; simp only [Int.toNat_natCast]; omega⟩
        by_cases e : j = i
        · rw [e]; exact hg
        · exact hall j (by omega)
    · have hi : i = s.size := by simp at hge; omega
      subst hi
      refine ⟨⟨-1, rfl, ?_⟩, k1⟩
      have : ((List.range s.size).any fun i => g (at8 s i)) = false := List.any_eq_false.2 fun j hj => by simpa using hall j (List.mem_range.1 hj)
      rw [this]; rfl
  refine vc_bcon (some ⟨b, 0, none⟩) s.size c f fa fb w _ ⟨hidx.mono fun e w1 ⟨⟨x, he, hx⟩, k1⟩ => ⟨_, he, .of_k0 k1, by rw [hx], k1⟩⟩
theorem scon_any (l : List ByteArray) (p : Option Addr) (c : Nat) (f : FuncId) (fa fb : Array Value) (g : ByteArray → Bool) (w : World) (hR : StrP w p l) (hs : l.length ≤ 1073741824) (hok : okFn Tryz.prog f = true)
    (hF : ∀ x, ∀ w1, K0 w w1 → Calls Tryz.prog f (appA fa [.string x] fb) w1 fun e w2 => e = .returned (.bool (g x)) ∧ K0 w1 w2) :
    Calls Tryz.prog 79 #[.slice p l.length c, .func (.func f) fa fb] w fun e w' => e = .returned (.bool (l.any g)) ∧ K0 w w' := by
  have hidx : Calls Tryz.prog 98 #[.slice p l.length c, .func (.func f) fa fb] w fun e w' => (∃ x : Int, e = .returned (.int .i64 x) ∧ decide (x ≥ 0) = l.any g) ∧ K0 w w' := by
    refine vc_sidx p l.length c f fa fb w _ ?_
    refine ⟨fun vs w' => ∃ i : Nat, vs = [.int .i64 (i : Int)] ∧ i ≤ l.length ∧ (∀ j z, j < i → l[j]? = some z → g z = false) ∧ K0 w w',
      fun vs _ => (match vs with | .int _ x :: _ => l.length - x.toNat | _ => 0), ⟨0, rfl, by omega, (fun j z h => by omega), .refl _ _⟩, ?_⟩
    rintro x w1 ⟨i, hv, hi, hall, k1⟩
    simp only [List.cons.injEq, Value.int.injEq, true_and, and_true] at hv
    subst hv
    refine bsp_intro (fun hlt => ?_) (fun hge => ?_)
    · have hlt : i < l.length := by simp at hlt; omega
      obtain ⟨z, b, o, hz, hp, hc⟩ := str_get (hR.k0 k1) hlt
      rw [Int.toNat_natCast]
      refine nn_is hp ⟨⟨by omega, by omega⟩, z, hc, f, fa, fb, rfl, hok, ⟨(hF z w1 k1).mono fun e w2 ⟨he, k2⟩ => ⟨_, he, .of_k0 k2, bsp_intro (fun hg => ?_) (fun hg => ?_)⟩⟩⟩
      · refine ⟨⟨i, rfl, ?_⟩, k1.trans k2⟩
        have : l.any g = true := List.any_eq_true.2 ⟨z, List.mem_of_getElem? hz, hg⟩
        rw [this]; simp
      · refine ⟨⟨i + 1, by rw [inc64 (by omega)], hlt, fun j y hj hy => ?_, k1.trans k2⟩, by rw [inc64 (by omega)]; simp only [Int.toNat_natCast]; omega⟩
        by_cases e : j = i
        · rw [e, hz] at hy; cases hy; exact hg
        · exact hall j y (by omega) hy
    · have hi : i = l.length := by simp at hge; omega
      subst hi
      refine ⟨⟨-1, rfl, ?_⟩, k1⟩
      have : l.any g = false := List.any_eq_false.2 fun z hz => by
        obtain ⟨j, hj, e⟩ := List.getElem_of_mem hz
        simpa using hall j z hj (by rw [List.getElem?_eq_getElem hj, e])
      rw [this]; rfl
  refine vc_scon p l.length c f fa fb w _ ⟨hidx.mono fun e w1 ⟨⟨x, he, hx⟩, k1⟩ => ⟨_, he, .of_k0 k1, by rw [hx], k1⟩⟩

/-! ### The program's -/
theorem gisl_any (c : Int) (w : World) : Calls Tryz.prog 99 #[.int .u8 c] w fun e w' => e = .returned (.bool (lowC c)) ∧ K0 w w' :=
  vc_gisl c w _ ⟨by unfold lowC; simp, .refl _ _⟩
theorem gcompC_any (c : Int) (w : World) : Calls Tryz.prog 101 #[.int .u8 c] w fun e w' => e = .returned (.bool (!compC c)) ∧ K0 w w' := by
  refine vc_gcompC c w _ ⟨(gisl_any c w).mono fun e w1 ⟨he, k1⟩ => ⟨_, he, .of_k0 k1, ?_, k1⟩⟩
  congr 2
  unfold compC
  rw [Bool.eq_iff_iff]
  cases lowC c <;> simp <;> omega
theorem compB_eq {s : ByteArray} (h0 : 0 < s.size) (h1 : s.size ≤ 20) (h2 : lowC (at8 s 0) = true) : compB s = !((List.range s.size).any fun i => !compC (at8 s i)) := by
  unfold compB
  rw [decide_eq_true h0, decide_eq_true h1, h2, List.not_any_eq_all_not]
  simp
theorem gcomp_any (s : ByteArray) (w : World) : Calls Tryz.prog 81 #[.string s] w fun e w' => e = .returned (.bool (compB s)) ∧ K0 w w' := by
  refine vc_gcomp s w _ ?_
  unfold VC_gcomp
  rw [toList_nil]
  refine ⟨gimp_intro fun h => ?_, bsp_intro (fun h => ?_) (fun h => ?_)⟩
  · simp only [Bool.not_eq_true', Bool.or_eq_false_iff, decide_eq_false_iff_not] at h
    omega
  · simp only [Bool.not_eq_true', Bool.or_eq_false_iff, decide_eq_false_iff_not] at h
    have h0 : 0 < s.size := by omega
    have h1 : s.size ≤ 20 := by omega
    refine ⟨(gisl_any (at8 s 0) w).mono fun e w1 ⟨he, k1⟩ => ⟨_, he, .of_k0 k1, bsp_intro (fun h2 => ?_) (fun h2 => ?_)⟩⟩
    · have h2 : lowC (at8 s 0) = false := by simpa using h2
      have : compB s = false := by unfold compB; rw [h2]; simp
      rw [this]; exact ⟨rfl, k1⟩
    · have h2 : lowC (at8 s 0) = true := by simpa using h2
      intro c n w2 hc hn
      have k2 : K0 w1 w2 := (hn.kp (fun _ => False)).of_drew
      refine ⟨.of_k0 k2, ⟨(bcon_any s n c 101 #[] #[] (fun c => !compC c) w2 (fun k hk => byte_cell hn.block hk) (by omega) (by kernel_rfl) (fun x w3 _ => gcompC_any x w3)).mono fun e w3 ⟨he, k3⟩ => ⟨_, he, .of_k0 k3, ?_, (k1.trans k2).trans k3⟩⟩⟩
      rw [compB_eq h0 h1 h2]
  · have h : s.size = 0 ∨ 20 < s.size := by
      simp only [Bool.not_eq_false', Bool.or_eq_true, decide_eq_true_eq] at h
      omega
    have : compB s = false := by
      unfold compB
      rcases h with h | h
      · rw [decide_eq_false (by omega)]; rfl
      · rw [decide_eq_false (show ¬ s.size ≤ 20 by omega)]; simp
    rw [this]
    exact ⟨.refl _ _, rfl, .refl _ _⟩
theorem gcheckC_any (s : ByteArray) (w : World) : Calls Tryz.prog 80 #[.string s] w fun e w' => e = .returned (.bool (!compB s)) ∧ K0 w w' :=
  vc_gcheckC s w _ ⟨(gcomp_any s w).mono fun _ _ ⟨he, k1⟩ => ⟨_, he, .of_k0 k1, rfl, k1⟩⟩
theorem gparts_any (s : ByteArray) (w : World) (hs : s.size ≤ 1073741824) (hG : GW w) : Calls Tryz.prog 78 #[.string s] w fun e w' => (∃ (p : Option Addr) (c : Nat), e = .returned (.slice p (partsD s).length c) ∧ StrP w' p (partsD s)) ∧ K0 w w' := by
  refine vc_gparts s w _ ?_
  obtain ⟨mm, hG1⟩ := hG
  refine ⟨(Tryz.strings_Split s ⟨#[46]⟩ mm w (by omega) hG1 (by decide)).mono fun e w2 ⟨he, hw2⟩ => ?_⟩
  have hlen : (partsD s).length = Lib.countB s ⟨#[46]⟩ + 1 := Lib.splitB_all ⟨#[46]⟩ (by decide) 0 _ s rfl
  have hn2 : NewB w (.cells ((partsD s).map .string).toArray 9) w.heap.size w2 := ⟨rfl, hw2⟩
  rw [← hlen] at he
  have k2 : K0 w w2 := hn2.kp _
  refine ⟨_, _, _, he, .of_k0 k2, ⟨_, _, rfl, fun k z hk => ⟨_, 0, rfl, ?_⟩⟩, k2⟩
  rw [Nat.zero_add]
  exact cell_at hn2.block (by simp [hk])
theorem partsD_len {s : ByteArray} : (partsD s).length = Lib.countB s ⟨#[46]⟩ + 1 := Lib.splitB_all ⟨#[46]⟩ (by decide) 0 _ s rfl
theorem partsD_le : ∀ (n : Nat) (s : ByteArray), s.size ≤ n → (partsD s).length ≤ s.size + 1
  | n, s, h => by
    have hf := findC_first 46 s
    by_cases hi : findC 46 s < s.size
    · cases n with
      | zero => omega
      | succ n =>
        rw [partsD_hit hf hi, List.length_cons]
        have hz : (s.extract (findC 46 s + 1) s.size).size = s.size - (findC 46 s + 1) := by rw [ByteArray.size_extract]; omega
        have := partsD_le n (s.extract (findC 46 s + 1) s.size) (by omega)
        omega
    · rw [partsD_miss hf hi]; simp
theorem gcheck_any (s : ByteArray) (w : World) (hG : GW w) : Calls Tryz.prog 54 #[.string s] w fun e w' => e = .returned (.int .i64 (gnE s)) ∧ K0 w w' := by
  refine vc_gcheck s w _ (bsp_intro (fun h => ?_) (fun h => ?_))
  · have : gnE s = 5 := by unfold gnE; rw [if_pos (by simp at h; omega)]
    rw [this]; exact ⟨rfl, .refl _ _⟩
  have h80 : ¬ 80 < s.size := by simp at h; omega
  have hle := partsD_le s.size s (Nat.le_refl _)
  unfold gnE
  rw [if_neg h80]
  refine ⟨(gparts_any s w (by omega) hG).mono fun e w1 ⟨⟨p, c, he, hR⟩, k1⟩ => ⟨_, _, _, he, .of_k0 k1, ?_⟩⟩
  refine ⟨(scon_any (partsD s) p c 80 #[] #[] (fun x => !compB x) w1 hR (by omega) (by kernel_rfl) (fun x w2 _ => gcheckC_any x w2)).mono fun e w2 ⟨he, k2⟩ => ⟨_, he, .of_k0 k2, bsp_intro (fun h => ?_) (fun h => ?_)⟩⟩
  · rw [if_pos h]; exact ⟨rfl, k1.trans k2⟩
  rw [if_neg (by rw [h]; decide)]
  refine bsp_intro (fun h => ?_) (fun h => ?_)
  · rw [if_pos (by simp at h; omega)]; exact ⟨rfl, k1.trans k2⟩
  · rw [if_neg (by simp at h; omega)]; exact ⟨rfl, k1.trans k2⟩

/-! ### The reference's -/
theorem xcomp_any (s : ByteArray) (w : World) : Calls Tryz.prog 83 #[.string s] w fun e w' => e = .returned (.bool (compB s)) ∧ K0 w w' := by
  refine vc_xcomp s w _ ⟨gimp_intro fun h => ?_, gimp_intro fun h => ?_, bsp_intro (fun h => ?_) (fun h => ?_)⟩
  · simp only [Bool.not_eq_true', Bool.or_eq_false_iff, decide_eq_false_iff_not] at h; omega
  · simp only [Bool.not_eq_true', Bool.or_eq_false_iff, decide_eq_false_iff_not] at h; omega
  · have : compB s = false := by
      simp only [Bool.or_eq_true, decide_eq_true_eq] at h
      unfold compB
      by_cases h1 : 0 < s.size ∧ s.size ≤ 20
      · have : lowC (at8 s 0) = false := by
          unfold lowC
          rcases h with ((h | h) | h) | h
          · omega
          · omega
          · have h : at8 s 0 < 97 := h
            rw [decide_eq_false (by omega)]; rfl
          · have h : at8 s 0 > 122 := h
            rw [decide_eq_false (show ¬ at8 s 0 ≤ 122 by omega)]; simp
        rw [this]; simp
      · by_cases h2 : 0 < s.size
        · rw [decide_eq_false (show ¬ s.size ≤ 20 by omega)]; simp
        · rw [decide_eq_false h2]; rfl
    rw [this]; exact ⟨rfl, .refl _ _⟩
  simp only [Bool.or_eq_false_iff, decide_eq_false_iff_not] at h
  have h2 : lowC (at8 s 0) = true := by
    have a1 : ¬ at8 s 0 < 97 := h.1.2
    have a2 : ¬ at8 s 0 > 122 := h.2
    unfold lowC
    rw [decide_eq_true (by omega), decide_eq_true (by omega)]; rfl
  have hc0 : compC (at8 s 0) = true := by unfold compC; rw [h2]; rfl
  refine ⟨fun vs w' => ∃ i : Nat, vs = [.int .i64 (i : Int)] ∧ 1 ≤ i ∧ i ≤ s.size ∧ (∀ j, j < i → compC (at8 s j) = true) ∧ K0 w w',
    fun vs _ => (match vs with | .int _ x :: _ => s.size - x.toNat | _ => 0), ⟨1, rfl, by omega, by omega, (fun j h => by have e : j = 0 := (by omega); rw [e]; exact hc0), .refl _ _⟩, ?_⟩
  rintro x w1 ⟨i, hv, h1i, hi, hall, k1⟩
  simp only [List.cons.injEq, Value.int.injEq, true_and, and_true] at hv
  subst hv
  refine bsp_intro (fun hlt => ?_) (fun hge => ?_)
  · have hlt : i < s.size := by simp at hlt; omega
    rw [Int.toNat_natCast]
    have e : (!(decide (at8 s i ≥ 97) && decide (at8 s i ≤ 122) || decide (at8 s i ≥ 48) && decide (at8 s i ≤ 57) || at8 s i == 45 || at8 s i == 43 || at8 s i == 95)) = !compC (at8 s i) := by
      unfold compC lowC; rfl
    rw [e]
    refine ⟨⟨by omega, by omega⟩, bsp_intro (fun hb => ?_) (fun hb => ?_)⟩
    · have hb : compC (at8 s i) = false := by simpa using hb
      have : compB s = false := by
        unfold compB
        have : ((List.range s.size).all fun i => compC (at8 s i)) = false := by
          rw [List.all_eq_false]; exact ⟨i, List.mem_range.2 hlt, by simp [hb]⟩
        rw [this]; simp
      rw [this]; exact ⟨rfl, k1⟩
    · have hb : compC (at8 s i) = true := by simpa using hb
      refine ⟨⟨i + 1, by rw [inc64 (by omega)], by omega, hlt, fun j hj => ?_, k1⟩, by rw [inc64 (by omega)]; simp only [Int.toNat_natCast]; omega⟩
      by_cases e : j = i
      · rw [e]; exact hb
      · exact hall j (by omega)
  · have hi : i = s.size := by simp at hge; omega
    subst hi
    have : compB s = true := by
      unfold compB
      rw [decide_eq_true (by omega), decide_eq_true (by omega), h2]
      simp only [Bool.true_and, List.all_eq_true]
      exact fun j hj => hall j (List.mem_range.1 hj)
    rw [this]; exact ⟨rfl, k1⟩
theorem ext_nil (s : ByteArray) (i : Nat) : s.extract i i = ⟨#[]⟩ := by
  apply ByteArray.ext_getElem
  · rw [ByteArray.size_extract]
    show min i s.size - i = 0
    omega
  · intro k hk _
    rw [ByteArray.size_extract] at hk
    omega
theorem xparts_any (s : ByteArray) (w : World) (hs : s.size ≤ 1000000) : Calls Tryz.prog 82 #[.string s, .int .u8 46] w fun e w' => (∃ (p : Option Addr) (c : Nat), e = .returned (.slice p (partsD s).length c) ∧ StrP w' p (partsD s)) ∧ K0 w w' := by
  refine vc_xparts s 46 w _ ?_
  refine ⟨fun vs w' => ∃ (i a : Nat) (p : Option Addr) (c : Nat) (out : List ByteArray), vs = [.int .i64 (i : Int), .string (s.extract a i), .slice p out.length c] ∧ a ≤ i ∧ i ≤ s.size ∧ out.length ≤ i ∧ (∀ j, a ≤ j → j < i → at8 s j ≠ 46) ∧ partsD s = out ++ partsD (s.extract a s.size) ∧ w'.ownsRow w.heap.size 9 1 (.slice p out.length c) out.length (out.map .string) ∧ K0 w w',
    fun vs _ => (match vs with | .int _ x :: _ => s.size - x.toNat | _ => 0), ⟨0, 0, none, 0, [], by rw [ext_nil]; rfl, by omega, by omega, by simp, (fun j h1 h2 => by omega), by simp, ⟨rfl, .inl ⟨rfl, rfl⟩⟩, .refl _ _⟩, ?_⟩
  rintro x y p n c w1 ⟨i, a, p', c', out, hv, hai, hi, hol, hno, hP, ho, k1⟩
  simp only [List.cons.injEq, Value.int.injEq, Value.string.injEq, Value.slice.injEq, true_and, and_true] at hv
  obtain ⟨rfl, rfl, rfl, rfl, rfl⟩ := hv
  have hesz : (s.extract a s.size).size = s.size - a := by rw [ByteArray.size_extract]; omega
  have happ : ∀ (W : World), K0 w1 W → ∀ (n1 : Nat), W.heap[n1]? = some (.cells #[.string (s.extract a i)] 9 (0, 0)) → ∃ (base : Nat) (xs : List Value), W.ownsRow base 9 1 (.slice p out.length c) out.length xs ∧ out.length + 1 ≤ 9223372036854775807 ∧ (out.length + 1) * 16 ≤ 140737488355328 ∧ base ≤ W.heap.size ∧ base = w.heap.size ∧ xs = out.map .string := fun W k n1 _ =>
    ⟨w.heap.size, _, owns_kp ho k (fun _ _ h => h), by omega, by omega, Nat.le_trans k1.size k.size, rfl, rfl⟩
  refine bsp_intro (fun hlt => ?_) (fun hge => ?_)
  · have hlt : i < s.size := by simp at hlt; omega
    rw [Int.toNat_natCast]
    refine ⟨⟨by omega, by omega⟩, bsp_intro (fun hb => fun n1 W hW => ?_) (fun hb => ?_)⟩
    · have hb : at8 s i = 46 := by simpa using hb
      have kW : K0 w1 W := hW.kk rfl
      obtain ⟨base, xs, h1, h2, h3, h4, rfl, rfl⟩ := happ W kW n1 (hW.cells 0 rfl)
      refine ⟨_, _, h1, h2, h3, h4, fun p' c' w2 ho2 hg2 _ => ?_⟩
      have k2 : K0 w w2 := (k1.trans kW).fresh (kp_grown hg2) (fun j hj e => by have := own_ge ho e; omega)
      have hfst : FirstC 46 (s.extract a s.size) 0 (i - a) := ⟨Nat.zero_le _, by omega, fun j _ hj => by
        rw [T0.at8_extract s a s.size j (by omega) (Nat.le_refl _)]
        exact hno (a + j) (by omega) (by omega), fun h => by
        rw [T0.at8_extract s a s.size _ (by omega) (Nat.le_refl _), show a + (i - a) = i by omega]
        exact hb⟩
      have hh := partsD_hit hfst (by omega)
      have e1 : (s.extract a s.size).extract 0 (i - a) = s.extract a i := by rw [ByteArray.extract_extract]; congr 1; omega
      have e2 : (s.extract a s.size).extract (i - a + 1) (s.extract a s.size).size = s.extract (i + 1) s.size := by rw [hesz, ByteArray.extract_extract]; congr 1 <;> omega
      rw [e1, e2] at hh
      have el : (out ++ [s.extract a i]).length = out.length + 1 := by simp
      refine ⟨⟨(kp_grown hg2).size, fun _ hx => by cases hx⟩, ⟨i + 1, i + 1, p', c', out ++ [s.extract a i], by rw [inc64 (by omega), ext_nil, el], by omega, hlt, by rw [el]; omega, (fun j h1 h2 => by omega), by rw [hP, hh, List.append_assoc]; rfl, by rw [el, List.map_append]; exact ho2, k2⟩, by rw [inc64 (by omega)]; simp only [Int.toNat_natCast]; omega⟩
    · have hb : at8 s i ≠ 46 := by simpa using hb
      rw [inc64 (by omega), Int.toNat_natCast]
      have e1 : s.extract a i ++ s.extract i (i + 1) = s.extract a (i + 1) := by
        rw [ByteArray.extract_append_extract]; congr 1 <;> omega
      have z1 : (s.extract a i).size ≤ s.size := by rw [ByteArray.size_extract]; omega
      have z2 : (s.extract i (i + 1)).size ≤ s.size := by rw [ByteArray.size_extract]; omega
      rw [e1]
      refine ⟨⟨by omega, by omega, by omega⟩, nneg (by omega), ⟨i + 1, a, p, c, out, rfl, by omega, hlt, by omega, fun j h1 h2 => ?_, hP, ho, k1⟩, by simp only [Int.toNat_natCast]; omega⟩
      by_cases e : j = i
      · rw [e]; exact hb
      · exact hno j h1 (by omega)
  · have hi2 : i = s.size := by simp at hge; omega
    subst hi2
    intro n1 W hW
    have kW : K0 w1 W := hW.kk rfl
    obtain ⟨base, xs, h1, h2, h3, h4, rfl, rfl⟩ := happ W kW n1 (hW.cells 0 rfl)
    refine ⟨_, _, h1, h2, h3, h4, fun p' c' w2 ho2 hg2 _ => ?_⟩
    have k2 : K0 w w2 := (k1.trans kW).fresh (kp_grown hg2) (fun j hj e => by have := own_ge ho e; omega)
    have hh := partsD_miss (s := s.extract a s.size) (i := (s.extract a s.size).size) ⟨Nat.zero_le _, Nat.le_refl _, fun j _ hj => by
      rw [T0.at8_extract s a s.size j (by omega) (Nat.le_refl _)]
      exact hno (a + j) (by omega) (by omega), fun h => by omega⟩ (by omega)
    rw [hh] at hP
    have el : (out ++ [s.extract a s.size]).length = out.length + 1 := by simp
    rw [hP, el]
    refine ⟨⟨(kp_grown hg2).size, fun _ hx => by cases hx⟩, ⟨p', c', rfl, ?_⟩, k2⟩
    have : w2.ownsRow w.heap.size 9 1 (.slice p' (out.length + 1) c') (out.length + 1) ((out ++ [s.extract a s.size]).map .string) := by rw [List.map_append]; exact ho2
    intro k z hk
    obtain ⟨g, hp, hc⟩ := own_cellL this (i := k) (v := .string z) (by rw [List.getElem?_map, hk]; rfl)
    exact ⟨g, 0, hp, by rw [Nat.zero_add]; exact hc⟩
theorem xgcheck_any (s : ByteArray) (w : World) : Calls Tryz.prog 55 #[.string s] w fun e w' => e = .returned (.int .i64 (gnE s)) ∧ K0 w w' := by
  refine vc_xgcheck s w _ (bsp_intro (fun h => ?_) (fun h => ?_))
  · have : gnE s = 5 := by unfold gnE; rw [if_pos (by simp at h; omega)]
    rw [this]; exact ⟨rfl, .refl _ _⟩
  have h80 : ¬ 80 < s.size := by simp at h; omega
  have hle := partsD_le s.size s (Nat.le_refl _)
  unfold gnE
  rw [if_neg h80]
  refine ⟨(xparts_any s w (by omega)).mono fun e w1 ⟨⟨p, c, he, hR⟩, k1⟩ => ⟨_, _, _, he, .of_k0 k1, ?_⟩⟩
  generalize partsD s = l at *
  refine ⟨fun vs w' => ∃ i : Nat, vs = [.int .i64 (i : Int)] ∧ i ≤ l.length ∧ (∀ j z, j < i → l[j]? = some z → compB z = true) ∧ K0 w1 w',
    fun vs _ => (match vs with | .int _ x :: _ => l.length - x.toNat | _ => 0), ⟨0, rfl, by omega, (fun j z h => by omega), .refl _ _⟩, ?_⟩
  rintro x w2 ⟨i, hv, hi, hall, k2⟩
  simp only [List.cons.injEq, Value.int.injEq, true_and, and_true] at hv
  subst hv
  refine bsp_intro (fun hlt => ?_) (fun hge => ?_)
  · have hlt : i < l.length := by simp at hlt; omega
    obtain ⟨z, b, o, hz, hp, hc⟩ := str_get (hR.k0 k2) hlt
    rw [Int.toNat_natCast]
    refine nn_is hp ⟨⟨by omega, by omega⟩, z, hc, ⟨(xcomp_any z w2).mono fun e w3 ⟨he, k3⟩ => ⟨_, he, .of_k0 k3, bsp_intro (fun hb => ?_) (fun hb => ?_)⟩⟩⟩
    · have : l.any (fun x => !compB x) = true := List.any_eq_true.2 ⟨z, List.mem_of_getElem? hz, hb⟩
      rw [if_pos this]
      exact ⟨rfl, (k1.trans k2).trans k3⟩
    · have hb : compB z = true := by simpa using hb
      refine ⟨⟨i + 1, by rw [inc64 (by omega)], hlt, fun j y hj hy => ?_, k2.trans k3⟩, by rw [inc64 (by omega)]; simp only [Int.toNat_natCast]; omega⟩
      by_cases e : j = i
      · rw [e, hz] at hy; cases hy; exact hb
      · exact hall j y (by omega) hy
  · have hi : i = l.length := by simp at hge; omega
    subst hi
    have : ¬ l.any (fun x => !compB x) = true := fun h => by
      obtain ⟨z, hz, e⟩ := List.any_eq_true.1 h
      obtain ⟨j, hj, e2⟩ := List.getElem_of_mem hz
      rw [hall j z hj (by rw [List.getElem?_eq_getElem hj, e2])] at e
      cases e
    rw [if_neg this]
    refine bsp_intro (fun h => ?_) (fun h => ?_)
    · rw [if_pos (by simp at h; omega)]; exact ⟨rfl, k1.trans k2⟩
    · rw [if_neg (by simp at h; omega)]; exact ⟨rfl, k1.trans k2⟩

end Go.Proofs.YtkkfnlehlkiejaaGreatDoor
