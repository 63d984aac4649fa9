/- Maps in the program's memory: their entries as a list, looked up, written, struck. Generic: no program, no condition. -/
import Derived.Test.YtcpjajjocmpkjaaDoorWorld
import Derived.Maps.Keyed
namespace Go.Proofs.YtcpjajjocmpkjaaDoor
open Go.RowKit Go.Maps

section
variable {α : Type} [DecidableEq α]
def aget {β : Type} : List (α × β) → α → Option β
  | [], _ => none
  | (b, v) :: r, a => if b = a then some v else aget r a
def aset {β : Type} : List (α × β) → α → β → List (α × β)
  | [], a, v => [(a, v)]
  | (b, u) :: r, a, v => if b = a then (a, v) :: r else (b, u) :: aset r a v
def adel {β : Type} (l : List (α × β)) (a : α) : List (α × β) := l.filter fun p => !decide (p.1 = a)
variable {β : Type}
theorem aget_aset (l : List (α × β)) (a c : α) (v : β) : aget (aset l a v) c = if a = c then some v else aget l c := by
  induction l with
  | nil => simp [aset, aget]
  | cons p r ih =>
    obtain ⟨b, u⟩ := p
    unfold aset
    by_cases h : b = a
    · subst h
      simp only [if_pos]
      unfold aget
      split <;> rfl
    · rw [if_neg h]
      simp only [aget]
      rw [ih]
      by_cases h1 : b = c
      · subst h1
        rw [if_pos rfl, if_neg (fun e => h e.symm), if_pos rfl]
      · rw [if_neg h1, if_neg h1]
theorem aget_none {l : List (α × β)} {a : α} : aget l a = none ↔ ∀ p ∈ l, p.1 ≠ a := by
  induction l with
  | nil => simp [aget]
  | cons p r ih =>
    obtain ⟨b, u⟩ := p
    unfold aget
    by_cases h : b = a
    · simp [h]
    · rw [if_neg h, ih]
      simp [h]
theorem aget_mem {l : List (α × β)} {a : α} {v : β} (h : aget l a = some v) : (a, v) ∈ l := by
  induction l with
  | nil => simp [aget] at h
  | cons p r ih =>
    obtain ⟨b, u⟩ := p
    unfold aget at h
    by_cases h' : b = a
    · rw [if_pos h'] at h
      simp at h; subst h; subst h'; simp
    · rw [if_neg h'] at h
      exact List.mem_cons_of_mem _ (ih h)
theorem aget_at {l : List (α × β)} (hd : l.Pairwise fun p q => p.1 ≠ q.1) {a : α} {v : β} (h : (a, v) ∈ l) : aget l a = some v := by
  induction l with
  | nil => cases h
  | cons p r ih =>
    obtain ⟨b, u⟩ := p
    obtain ⟨h1, h2⟩ := List.pairwise_cons.1 hd
    unfold aget
    rcases List.mem_cons.1 h with e | e
    · cases e; rw [if_pos rfl]
    · rw [if_neg (h1 _ e)]; exact ih h2 e
theorem aset_new {l : List (α × β)} {a : α} {v : β} (h : ∀ p ∈ l, p.1 ≠ a) : aset l a v = l ++ [(a, v)] := by
  induction l with
  | nil => rfl
  | cons p r ih =>
    obtain ⟨b, u⟩ := p
    unfold aset
    rw [if_neg (h (b, u) (by simp)), ih fun q hq => h q (by simp [hq])]
    rfl
theorem aset_old {l : List (α × β)} (hd : l.Pairwise fun p q => p.1 ≠ q.1) {a : α} {v u : β} {j : Nat} (hj : l[j]? = some (a, u)) : aset l a v = l.set j (a, v) := by
  induction l generalizing j with
  | nil => simp at hj
  | cons p r ih =>
    obtain ⟨b, x⟩ := p
    obtain ⟨h1, h2⟩ := List.pairwise_cons.1 hd
    unfold aset
    cases j with
    | zero =>
      simp at hj
      rw [if_pos hj.1]; rfl
    | succ j =>
      have hj' : r[j]? = some (a, u) := by simpa using hj
      rw [if_neg (h1 _ (List.mem_of_getElem? hj')), ih h2 hj']
      rfl
theorem aset_keys {l : List (α × β)} (a : α) (v : β) : ∀ p ∈ aset l a v, p = (a, v) ∨ (p ∈ l ∧ p.1 ≠ a) ∨ (p ∈ l) := by
  induction l with
  | nil => intro p hp; simp [aset] at hp; exact .inl hp
  | cons q r ih =>
    obtain ⟨b, u⟩ := q
    intro p hp
    unfold aset at hp
    split at hp
    · rcases List.mem_cons.1 hp with h | h
      · exact .inl h
      · exact .inr (.inr (by simp [h]))
    · rcases List.mem_cons.1 hp with h | h
      · exact .inr (.inr (by simp [h]))
      · rcases ih p h with h | h | h
        · exact .inl h
        · exact .inr (.inr (by simp [h.1]))
        · exact .inr (.inr (by simp [h]))
theorem aset_dis {l : List (α × β)} (hd : l.Pairwise fun p q => p.1 ≠ q.1) (a : α) (v : β) : (aset l a v).Pairwise fun p q => p.1 ≠ q.1 := by
  induction l with
  | nil => simp [aset]
  | cons q r ih =>
    obtain ⟨b, u⟩ := q
    obtain ⟨h1, h2⟩ := List.pairwise_cons.1 hd
    unfold aset
    split
    · rename_i h
      subst h
      exact List.pairwise_cons.2 ⟨h1, h2⟩
    · rename_i h
      refine List.pairwise_cons.2 ⟨fun p hp => ?_, ih h2⟩
      rcases aset_keys a v p hp with e | e | e
      · rw [e]; exact h
      · exact h1 _ e.1
      · exact h1 _ e
theorem aset_length (l : List (α × β)) (a : α) (v : β) : (aset l a v).length ≤ l.length + 1 := by
  induction l with
  | nil => simp [aset]
  | cons q r ih => obtain ⟨b, u⟩ := q; unfold aset; split <;> simp; exact ih
end

/-- The entries with their values as they lie. -/
def amap {α β γ : Type} (f : β → γ) (l : List (α × β)) : List (α × γ) := l.map fun p => (p.1, f p.2)
theorem aset_amap {α β γ : Type} [DecidableEq α] (f : β → γ) (l : List (α × β)) (a : α) (v : β) : aset (amap f l) a (f v) = amap f (aset l a v) := by
  induction l with
  | nil => rfl
  | cons p r ih =>
    obtain ⟨b, u⟩ := p
    show aset ((b, f u) :: amap f r) a (f v) = _
    unfold aset
    split
    · rfl
    · rw [ih]; rfl
theorem aget_amap {α β γ : Type} [DecidableEq α] (f : β → γ) (l : List (α × β)) (a : α) : aget (amap f l) a = (aget l a).map f := by
  induction l with
  | nil => rfl
  | cons p r ih =>
    obtain ⟨b, u⟩ := p
    show aget ((b, f u) :: amap f r) a = _
    unfold aget
    split
    · rfl
    · rw [ih]

/-- Block b is a map with these entries, in the order of their making; a key lies as enc says. -/
structure MapB {α : Type} (P : Program) (k : TypeId) (enc : α → Value) (w : World) (b : Nat) (l : List (α × Value)) : Prop where
  blk : ∃ es clock, w.heap[b]? = some (.map es clock) ∧ es.toList.map (fun e => (e.key, e.val)) = l.map (fun p => (enc p.1, p.2))
  key : ∀ p ∈ l, ∃ kl, keyOf P k (enc p.1) = some kl
  dis : l.Pairwise fun p q => p.1 ≠ q.1

section
variable {α : Type} {P : Program} {k t e : TypeId} {enc : α → Value} {w w1 : World} {b : Nat} {l : List (α × Value)}
theorem MapB.lt (h : MapB P k enc w b l) : b < w.heap.size := by obtain ⟨es, c, hb, _⟩ := h.blk; exact block_lt hb
theorem MapB.kp {M : Nat → Prop} {w' : World} (h : MapB P k enc w b l) (hk : Kp M w w') (hm : ¬ M b) : MapB P k enc w' b l := by
  obtain ⟨es, c, hb, he⟩ := h.blk
  exact ⟨⟨es, c, hk.blk hb hm, he⟩, h.key, h.dis⟩
theorem MapB.drew (h : MapB P k enc w b l) : MapB P k enc w.drew b l := ⟨h.blk, h.key, h.dis⟩
theorem NewB.map {c : Nat} (h : NewB w (.map #[] c) b w1) : MapB P k enc w1 b ([] : List (α × Value)) :=
  ⟨⟨#[], c, h.block, rfl⟩, (fun p hp => by cases hp), .nil⟩

variable [DecidableEq α] (hinj : ∀ x y, enc x = enc y → x = y)
include hinj
theorem map_find (K : Keyed P k) {es : List MapEntry} (he : es.map (fun e => (e.key, e.val)) = l.map (fun p => (enc p.1, p.2))) (hkey : ∀ p ∈ l, ∃ kl, keyOf P k (enc p.1) = some kl) (hdis : l.Pairwise fun p q => p.1 ≠ q.1)
    {a : α} {kl : Lit} (ha : keyOf P k (enc a) = some kl) :
    (aget l a = none ∧ (Instr.findKey k (enc a) es).run P w = .ok none w) ∨
    (∃ j v u, aget l a = some v ∧ (Instr.findKey k (enc a) es).run P w = .ok (some (j, v)) w ∧ l[j]? = some (a, v) ∧ es[j]? = some u ∧ u.key = enc a) := by
  have hm : ∀ x ∈ es, ∃ p ∈ l, x.key = enc p.1 ∧ x.val = p.2 := fun x hx => by
    have : (x.key, x.val) ∈ es.map (fun e => (e.key, e.val)) := List.mem_map.2 ⟨x, hx, rfl⟩
    rw [he] at this
    obtain ⟨p, hp, e⟩ := List.mem_map.1 this
    simp at e
    exact ⟨p, hp, e.1.symm, e.2.symm⟩
  rcases K.find w ha es (fun x hx => by
    obtain ⟨p, hp, h1, _⟩ := hm x hx
    rw [h1]; exact hkey p hp) with ⟨h1, h2⟩ | ⟨j, u, h1, h2, h3⟩
  · refine .inl ⟨aget_none.2 fun p hp hpa => ?_, h1⟩
    have : (enc p.1, p.2) ∈ l.map (fun p => (enc p.1, p.2)) := List.mem_map.2 ⟨p, hp, rfl⟩
    rw [← he] at this
    obtain ⟨x, hx, e⟩ := List.mem_map.1 this
    simp at e
    exact h2 x hx (by rw [e.1, hpa])
  · have h4 : (es.map (fun e => (e.key, e.val)))[j]? = some (u.key, u.val) := by simp [h2]
    rw [he] at h4
    simp only [List.getElem?_map, Option.map_eq_some_iff] at h4
    obtain ⟨p, hp, e⟩ := h4
    simp at e
    obtain ⟨pa, pv⟩ := p
    have ea : pa = a := hinj _ _ (e.1.trans h3)
    subst ea
    have ev : pv = u.val := e.2
    subst ev
    exact .inr ⟨j, _, u, aget_at hdis (List.mem_of_getElem? hp), h1, hp, h2, h3⟩
/-- A look into a map. -/
theorem MapB.look (h : MapB P k enc w b l) (K : Keyed P k) (ht : P.underlying t = some (.map k e)) {z : Value} (hz : (zeroValue e).run P w = .ok z w) {a : α} {kl : Lit} (ha : keyOf P k (enc a) = some kl) (ok : Bool) :
    LookP P t (.map (some b)) (enc a) ok (match ok with | true => .tuple #[(aget l a).getD z, .bool (aget l a).isSome] | false => (aget l a).getD z) w := by
  obtain ⟨es, c, hb, he⟩ := h.blk
  constructor
  rcases map_find hinj K he h.key h.dis ha (w := w) with ⟨h1, h2⟩ | ⟨j, v, u, h1, h2, _⟩
  · rw [h1]
    cases ok <;> simp [Instr.lookup, run_underlying ht, MapKept.run_getObj_map hb, K.check w _ ha, h2, hz, Result.andThen]
  · rw [h1]
    cases ok <;> simp [Instr.lookup, run_underlying ht, MapKept.run_getObj_map hb, K.check w _ ha, h2, Result.andThen]
/-- An entry of a map is written. -/
theorem MapB.upd (h : MapB P k enc w b l) (K : Keyed P k) (ht : P.underlying t = some (.map k e)) {a : α} {kl : Lit} (ha : keyOf P k (enc a) = some kl) (v : Value) :
    ∃ w1, UpdP P t (.map (some b)) (enc a) v w w1 ∧ MapB P k enc w1 b (aset l a v) ∧ Kp (· = b) w w1 := by
  obtain ⟨es, c, hb, he⟩ := h.blk
  have hkp : ∀ o, Kp (· = b) w (ChangeMaps.setBlock w b o) := fun o => ⟨rfl, rfl, rfl, by simp [ChangeMaps.setBlock], fun i _ hi => ChangeMaps.heap_setBlock_other hb _ (fun e => hi (by rw [e]))⟩
  have hkeys : ∀ p ∈ aset l a v, ∃ kl, keyOf P k (enc p.1) = some kl := fun p hp => by
    rcases aset_keys a v p hp with e | e | e
    · rw [e]; exact ⟨_, ha⟩
    · exact h.key p e.1
    · exact h.key p e
  rcases map_find hinj K he h.key h.dis ha (w := w) with ⟨h1, h2⟩ | ⟨j, x, u, h1, h2, h3, h4, h5⟩
  · refine ⟨ChangeMaps.setBlock w b (.map (es.push ⟨enc a, v, c⟩) (c + 1)), ⟨?_⟩, ⟨⟨_, _, ChangeMaps.heap_setBlock_same hb _, ?_⟩, hkeys, aset_dis h.dis a v⟩, hkp _⟩
    · simp [Instr.mapUpdate, run_underlying ht, MapKept.run_getObj_map hb, K.check w _ ha, h2, MapKept.run_setObj_map _ hb, Result.andThen, ChangeMaps.setBlock]
    · rw [aset_new (aget_none.1 h1)]
      simp [he]
  · refine ⟨ChangeMaps.setBlock w b (.map (es.modify j fun e' => { e' with key := enc a, val := v }) c), ⟨?_⟩, ⟨⟨_, _, ChangeMaps.heap_setBlock_same hb _, ?_⟩, hkeys, aset_dis h.dis a v⟩, hkp _⟩
    · have hj : es[j]? = some u := by simpa using h4
      simp [Instr.mapUpdate, run_underlying ht, MapKept.run_getObj_map hb, K.check w _ ha, h2, hj, h5, K.stays w ha, MapKept.run_setObj_map _ hb, Result.andThen, ChangeMaps.setBlock]
    · rw [aset_old h.dis h3, List.map_set, ← he, Array.toList_modify, ChangeMaps.modify_eq_set _ _ _ _ h4, List.map_set]
end

end Go.Proofs.YtcpjajjocmpkjaaDoor
