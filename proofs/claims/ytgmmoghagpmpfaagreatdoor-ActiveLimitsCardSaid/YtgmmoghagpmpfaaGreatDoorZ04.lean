/- The symbolic evaluator, seventh part: soundness of the sixth. Generic: no program, no condition. -/
import Derived.Test.YtgmmoghagpmpfaaGreatDoorZ03
import Derived.Scope
import Derived.Control
namespace Go.Proofs.YtgmmoghagpmpfaaGreatDoor
open Go.RowKit

theorem blksOf_eq : ∀ l : Bs, blksOf l = l.map (·.2)
  | [] => rfl
  | x :: r => by simp [blksOf, blksOf_eq r]
theorem numsOf_eq : ∀ l : Bs, numsOf l = l.map (·.2.n)
  | [] => rfl
  | x :: r => by simp [numsOf, numsOf_eq r]
theorem mem_blks {l : Bs} {b : Blk} : b ∈ blksOf l ↔ ∃ i, (i, b) ∈ l := by
  rw [blksOf_eq, List.mem_map]
  constructor
  · rintro ⟨x, hx, rfl⟩; exact ⟨x.1, hx⟩
  · rintro ⟨i, hi⟩; exact ⟨(i, b), hi, rfl⟩
theorem findN_mem {α : Type} {i : Nat} : ∀ {l : List (Nat × α)} {x : α}, findN i l = some x → (i, x) ∈ l
  | [], x, h => by simp [findN] at h
  | (j, y) :: r, x, h => by
    simp only [findN] at h
    cases hj : i == j with
    | true =>
      rw [hj] at h
      have : i = j := by simpa using hj
      simp at h; subst h; subst this; simp
    | false => rw [hj] at h; exact List.mem_cons_of_mem _ (findN_mem h)
theorem lookB_mem {B : Bs} {T : Trk} {id : Nat} {b : Blk} (h : lookB B T id = some b) : (id, b) ∈ B ++ T.bs := by
  unfold lookB at h
  split at h
  · rename_i x hx
    simp at h; subst h
    exact List.mem_append.2 (.inr (findN_mem hx))
  · exact List.mem_append.2 (.inl (findN_mem h))
theorem delN_mem {α : Type} {d : Nat} : ∀ {l : List (Nat × α)} {x : Nat × α}, x ∈ delN d l → x ∈ l ∧ x.1 ≠ d
  | [], x, h => by simp [delN] at h
  | y :: r, x, h => by
    simp only [delN] at h
    cases hj : y.1 == d with
    | true =>
      rw [hj] at h
      obtain ⟨h1, h2⟩ := delN_mem h
      exact ⟨List.mem_cons_of_mem _ h1, h2⟩
    | false =>
      rw [hj] at h
      rcases List.mem_cons.1 h with h | h
      · subst h; exact ⟨List.mem_cons_self, by simpa using hj⟩
      · obtain ⟨h1, h2⟩ := delN_mem h
        exact ⟨List.mem_cons_of_mem _ h1, h2⟩
theorem memN_iff {d : Nat} : ∀ {l : List Nat}, memN d l = true ↔ d ∈ l
  | [] => by simp [memN]
  | x :: r => by
    simp only [memN]
    cases hx : x == d with
    | true => have : x = d := by simpa using hx
              subst this; simp
    | false =>
      have : ¬ d = x := fun e => by subst e; simp at hx
      simp [memN_iff, this]
theorem delAll_mem {α : Type} {ds : List Nat} : ∀ {l : List (Nat × α)} {x : Nat × α}, x ∈ delAll ds l → x ∈ l ∧ x.1 ∉ ds
  | [], x, h => by simp [delAll] at h
  | y :: r, x, h => by
    simp only [delAll] at h
    cases hj : memN y.1 ds with
    | true =>
      rw [hj] at h
      obtain ⟨h1, h2⟩ := delAll_mem h
      exact ⟨List.mem_cons_of_mem _ h1, h2⟩
    | false =>
      rw [hj] at h
      rcases List.mem_cons.1 h with h | h
      · subst h; exact ⟨List.mem_cons_self, fun hm => by rw [memN_iff.2 hm] at hj; cases hj⟩
      · obtain ⟨h1, h2⟩ := delAll_mem h
        exact ⟨List.mem_cons_of_mem _ h1, h2⟩
theorem delAll_sub {α : Type} {ds : List Nat} : ∀ (l : List (Nat × α)), (delAll ds l).Sublist l
  | [] => .slnil
  | y :: r => by
    simp only [delAll]
    cases memN y.1 ds with
    | true => exact (delAll_sub r).cons _
    | false => exact (delAll_sub r).cons_cons _
theorem delKeep_perm {α : Type} {ds : List Nat} : ∀ (l : List (Nat × α)), (delAll ds l ++ keepAll ds l).Perm l
  | [] => .refl _
  | y :: r => by
    simp only [delAll, keepAll]
    cases memN y.1 ds with
    | true => exact List.perm_middle.trans (.cons _ (delKeep_perm r))
    | false => exact .cons _ (delKeep_perm r)
theorem calm_mem {l : Bs} {x : Nat × Blk} (h : x ∈ calm l) : x.2.m = 0 ∧ ∃ y ∈ l, y.1 = x.1 ∧ y.2.n = x.2.n := by
  induction l with
  | nil => cases h
  | cons a r ih =>
    rcases List.mem_cons.1 h with h | h
    · subst h; exact ⟨rfl, a, List.mem_cons_self, rfl, rfl⟩
    · obtain ⟨h1, y, hy, h2⟩ := ih h
      exact ⟨h1, y, List.mem_cons_of_mem _ hy, h2⟩
/-- What does not change when the world is spoken of anew. -/
def Blk.key (x : Blk) : Nat × TypeId × List Value := (x.n, x.t, x.cs)
theorem calm_key : ∀ l : Bs, (blksOf (calm l)).map Blk.key = (blksOf l).map Blk.key
  | [] => rfl
  | x :: r => by simp only [calm, blksOf, List.map_cons, calm_key r]; rfl
theorem drop_tg (T : Trk) (ids : List Nat) : (T.drop ids).tg = T.tg ∧ (T.drop ids).sg = T.sg ∧ (T.drop ids).nx = T.nx := ⟨rfl, rfl, rfl⟩
theorem untag_bs (T : Trk) (dst : Option Nat) : (T.untag dst).bs = T.bs := by unfold Trk.untag; split <;> rfl

/-! ### The worlds -/
theorem loc_zero {z : Nat} {L L' L'' : List Blk} {w W : World} (h : Loc z L w W) (hs : L'.Sublist L) (hk : L''.map Blk.key = L'.map Blk.key) (hm : ∀ x ∈ L'', x.m = 0) : Loc z L'' W W := by
  have old : ∀ x ∈ L'', ∃ y ∈ L, y.key = x.key := fun x hx => by
    have : x.key ∈ L'.map Blk.key := by rw [← hk]; exact List.mem_map.2 ⟨x, hx, rfl⟩
    obtain ⟨y, hy, e⟩ := List.mem_map.1 this
    exact ⟨y, hs.subset hy, e⟩
  refine ⟨.refl _ _, fun x hx => ?_, fun x hx => ?_, ?_, (fun x hx h2 => by rw [hm x hx] at h2; cases h2), Nat.le_trans h.hz h.kp.size⟩
  · obtain ⟨y, hy, e⟩ := old x hx
    have := h.blk y hy
    simp only [Blk.key, Prod.mk.injEq] at e
    rw [← e.1, ← e.2.1, ← e.2.2]; exact this
  · obtain ⟨y, hy, e⟩ := old x hx
    have := h.ge y hy
    simp only [Blk.key, Prod.mk.injEq] at e
    rw [← e.1]; exact this
  · have e : ∀ l : List Blk, l.map (·.n) = (l.map Blk.key).map (·.1) := fun l => by rw [List.map_map]; rfl
    rw [e, hk, ← e]
    exact h.ne.sublist (hs.map _)
theorem Loc.perm {z : Nat} {T T' : List Blk} {w W : World} (h : Loc z T w W) (hs : T.Perm T') : Loc z T' w W :=
  ⟨h.kp.mono fun _ _ ⟨x, hx, e⟩ => ⟨x, hs.mem_iff.1 hx, e⟩, fun x hx => h.blk x (hs.mem_iff.2 hx), fun x hx => h.ge x (hs.mem_iff.2 hx), (hs.map _).nodup_iff.1 h.ne, fun x hx => h.nw x (hs.mem_iff.2 hx), h.hz⟩
theorem Loc.drew {z : Nat} {T : List Blk} {w W : World} (h : Loc z T w W) : Loc z T w W.drew := ⟨h.kp.drew, h.blk, h.ge, h.ne, h.nw, h.hz⟩
/-- What was kept is kept. -/
theorem Loc.k0 {w0 : World} {T : List Blk} {w W : World} (h : Loc w0.heap.size T w W) (hk : K0 w0 w) : K0 w0 W :=
  hk.fresh h.kp (fun i hi ⟨x, hx, _, e⟩ => by have := h.ge x hx; omega)
/-- No old block is written. -/
theorem Loc.kk {z : Nat} {T : List Blk} {w W : World} (h : Loc z T w W) (hm : (T.all fun x => !(x.m == 1)) = true) : K0 w W := h.kp.mono fun _ _ ⟨x, hx, e, _⟩ => by
  have := List.all_eq_true.1 hm x hx
  simp [e] at this
theorem Loc.fresh {z : Nat} {T : List Blk} {w W : World} (h : Loc z T w W) (i : Nat) {b : Blk} (hb : T[i]? = some b) (hm : b.m = 2) : w.heap.size ≤ b.n := h.nw b (List.mem_of_getElem? hb) hm
theorem Loc.apart {z : Nat} {T : List Blk} {w W : World} (h : Loc z T w W) (i j : Nat) {a b : Blk} (ha : T[i]? = some a) (hb : T[j]? = some b) (hij : i ≠ j) : a.n ≠ b.n := fun e => by
  have h1 : (T.map (·.n))[i]? = some a.n := by rw [List.getElem?_map, ha]; rfl
  have h2 : (T.map (·.n))[j]? = some b.n := by rw [List.getElem?_map, hb]; rfl
  obtain ⟨hi, e1⟩ := List.getElem?_eq_some_iff.1 h1
  obtain ⟨hj, e2⟩ := List.getElem?_eq_some_iff.1 h2
  have key := List.pairwise_iff_getElem.1 h.ne
  rcases Nat.lt_or_gt_of_ne hij with hlt | hlt
  · exact key i j hi hj hlt (e1.trans (e.trans e2.symm))
  · exact key j i hj hi hlt (e2.trans (e.symm.trans e1.symm))
theorem Loc.cells {z : Nat} {T : List Blk} {w W : World} (h : Loc z T w W) (i : Nat) {b : Blk} (hb : T[i]? = some b) : W.heap[b.n]? = some (.cells b.cs.toArray b.t (0, 0)) := h.blk b (List.mem_of_getElem? hb)
theorem Loc.le {z : Nat} {T : List Blk} {w W : World} (h : Loc z T w W) (i : Nat) {b : Blk} (hb : T[i]? = some b) : z ≤ b.n := h.ge b (List.mem_of_getElem? hb)
theorem KeptL.of_kp {l : List Nat} {W w' : World} {M : Nat → Prop} (h : Kp M W w') (hl : ∀ n ∈ l, ¬ M n) : KeptL l W w' := ⟨h.size, fun n hn hlt => h.block n hlt (hl n hn)⟩
theorem KeptL.of_k0 {l : List Nat} {W w' : World} (h : K0 W w') : KeptL l W w' := .of_kp h (fun _ _ h => h)
theorem KeptL.refl (l : List Nat) (W : World) : KeptL l W W := ⟨Nat.le_refl _, fun _ _ _ => rfl⟩
theorem keptF_ok {L : Bs} {W w' : World} {X : Prop} (h : keptF (numsOf L) W w' X) : W.heap.size ≤ w'.heap.size ∧ (∀ x ∈ L, x.2.n < W.heap.size → w'.heap[x.2.n]? = W.heap[x.2.n]?) ∧ X :=
  ⟨h.1.size, fun x hx => h.1.h _ (by rw [numsOf_eq]; exact List.mem_map.2 ⟨x, hx, rfl⟩), h.2⟩
/-- The world that is spoken of, and the world. -/
structure LocD (z : Nat) (B : Bs) (T : Trk) (w W : World) : Prop where
  l : Loc z (allB B T) w W
  d : T.d = false → W = w
  b0 : ∀ x ∈ B, x.2.m = 0
theorem syncF_use {z : Nat} {B : Bs} {T : Trk} {w W : World} {K : World → Prop} (h : syncF z B T w K) (hL : LocD z B T w W) : K W := by
  unfold syncF at h
  split at h
  · rename_i hd; rw [hL.d hd]; exact h
  · exact h W hL.l
theorem blks_sub {l l' : Bs} (h : l.Sublist l') : (blksOf l).Sublist (blksOf l') := by rw [blksOf_eq, blksOf_eq]; exact h.map _
theorem blks_app (l l' : Bs) : blksOf (l ++ l') = blksOf l ++ blksOf l' := by simp [blksOf_eq]
/-- The world is spoken of anew. -/
theorem LocD.anew {z : Nat} {B : Bs} {T T' : Trk} {w W : World} (h : LocD z B T w W) {ids : List Nat} (hs : T'.bs = calm (delAll ids T.bs)) : LocD z B T' W W := by
  refine ⟨loc_zero (L' := blksOf (B ++ delAll ids T.bs)) h.l (blks_sub ((List.Sublist.refl B).append (delAll_sub _))) ?_ ?_, fun _ => rfl, h.b0⟩
  · unfold allB; rw [hs, blks_app, blks_app, List.map_append, List.map_append, calm_key]
  · intro x hx
    obtain ⟨i, hi⟩ := mem_blks.1 hx
    rcases List.mem_append.1 hi with hi | hi
    · exact h.b0 _ hi
    · rw [hs] at hi; exact (calm_mem hi).1
theorem LocD.eff {z : Nat} {B : Bs} {T T' : Trk} {w W w' : World} (h : LocD z B T w W) {ids : List Nat} (hs : T'.bs = calm (delAll ids T.bs)) (hsz : W.heap.size ≤ w'.heap.size) (hk : ∀ x ∈ B ++ T'.bs, x.2.n < W.heap.size → w'.heap[x.2.n]? = W.heap[x.2.n]?) : LocD z B T' w' w' := by
  obtain ⟨h1, _, h3⟩ := h.anew hs
  refine ⟨⟨.refl _ _, fun x hx => ?_, h1.ge, h1.ne, fun x hx h2 => ?_, Nat.le_trans h1.hz hsz⟩, fun _ => rfl, h3⟩
  · obtain ⟨i, hi⟩ := mem_blks.1 hx
    rw [hk _ hi (block_lt (h1.blk x hx))]
    exact h1.blk x hx
  · exfalso
    obtain ⟨i, hi⟩ := mem_blks.1 hx
    have : x.m = 0 := by
      rcases List.mem_append.1 hi with hi | hi
      · exact h.b0 _ hi
      · rw [hs] at hi; exact (calm_mem hi).1
    omega

/-! ### The slots that point into the blocks -/
structure TagOK (B : Bs) (T : Trk) (t : Array Value) : Prop where
  p : ∀ s id off, (s, id, off) ∈ T.tg → id < T.nx ∧ ∀ b, (id, b) ∈ B ++ T.bs → t.getD s undef = .pointer (some ⟨b.n, off, none⟩)
  s : ∀ s id, (s, id) ∈ T.sg → id < T.nx ∧ ∀ b, (id, b) ∈ B ++ T.bs → ∃ m c, t.getD s undef = .slice (some ⟨b.n, 0, none⟩) m c
  lt : ∀ x ∈ B ++ T.bs, x.1 < T.nx
theorem TagOK.of {B B' : Bs} {T T' : Trk} {t t' : Array Value} (h : TagOK B T t) (h1 : ∀ x ∈ T'.tg, x ∈ T.tg ∧ t'.getD x.1 undef = t.getD x.1 undef) (h2 : ∀ x ∈ T'.sg, x ∈ T.sg ∧ t'.getD x.1 undef = t.getD x.1 undef)
    (h3 : ∀ x ∈ B' ++ T'.bs, ∃ y ∈ B ++ T.bs, y.1 = x.1 ∧ y.2.n = x.2.n) (h4 : T.nx ≤ T'.nx) : TagOK B' T' t' := by
  refine ⟨fun s id off hx => ?_, fun s id hx => ?_, fun x hx => by obtain ⟨y, hy, e, _⟩ := h3 x hx; have := h.lt y hy; omega⟩
  · obtain ⟨a, b⟩ := h1 _ hx
    obtain ⟨c, d⟩ := h.p s id off a
    refine ⟨by omega, fun bb hb => ?_⟩
    obtain ⟨⟨i, y⟩, hy, rfl, e2⟩ := h3 _ hb
    have := d y hy
    simp only at b e2
    rw [b, this, e2]
  · obtain ⟨a, b⟩ := h2 _ hx
    obtain ⟨c, d⟩ := h.s s id a
    refine ⟨by omega, fun bb hb => ?_⟩
    obtain ⟨⟨i, y⟩, hy, rfl, e2⟩ := h3 _ hb
    obtain ⟨m, k, e⟩ := d y hy
    simp only at b e2
    exact ⟨m, k, by rw [b, e, e2]⟩
theorem TagOK.put {B : Bs} {T : Trk} {t : Array Value} (h : TagOK B T t) {dst : Option Nat} {t' : Array Value} (hs : Same dst.toList t t') : TagOK B (T.untag dst) t' := by
  cases dst with
  | none => exact h.of (fun x hx => ⟨hx, hs.at_ _ (by simp)⟩) (fun x hx => ⟨hx, hs.at_ _ (by simp)⟩) (fun x hx => ⟨x, hx, rfl, rfl⟩) (Nat.le_refl _)
  | some d =>
    refine h.of (fun x hx => ?_) (fun x hx => ?_) (fun x hx => ⟨x, hx, rfl, rfl⟩) (Nat.le_refl _)
    · obtain ⟨h1, h2⟩ := delN_mem hx; exact ⟨h1, hs.at_ _ (by simpa using h2)⟩
    · obtain ⟨h1, h2⟩ := delN_mem hx; exact ⟨h1, hs.at_ _ (by simpa using h2)⟩
theorem TagOK.drop {B : Bs} {T : Trk} {t : Array Value} (h : TagOK B T t) (ids : List Nat) : TagOK B (T.drop ids) t := by
  obtain ⟨e1, e2, e3⟩ := drop_tg T ids
  refine h.of (fun x hx => ⟨by rw [e1] at hx; exact hx, rfl⟩) (fun x hx => ⟨by rw [e2] at hx; exact hx, rfl⟩) (fun x hx => ?_) (by omega)
  rcases List.mem_append.1 hx with hx | hx
  · exact ⟨x, List.mem_append.2 (.inl hx), rfl, rfl⟩
  · obtain ⟨_, y, hy, h2⟩ := calm_mem hx
    exact ⟨y, List.mem_append.2 (.inr (delAll_mem hy).1), h2⟩
theorem dropF_ok {z : Nat} {B : Bs} {T : Trk} {ids : List Nat} {w W : World} {K : Trk → World → Prop} {t : Array Value} (hf : dropF z B T ids w K) (hT : TagOK B T t) (hL : LocD z B T w W) : ∃ T' w', K T' w' ∧ TagOK B T' t ∧ LocD z B T' w' W := by
  unfold dropF at hf
  split at hf
  · exact ⟨T, w, hf, hT, hL⟩
  · exact ⟨_, W, syncF_use hf hL, hT.drop _, hL.anew rfl⟩
theorem trkLoad_ok {E : Env} {z : Nat} {B : Bs} {T : Trk} {s : Nat} {ty : TypeId} {v : Value} {t : Array Value} {w W : World} (h : trkLoad E B T s ty = some (some v)) (hT : TagOK B T t) (hL : Loc z (allB B T) w W) :
    ∃ b off agg n cs, t.getD s undef = .pointer (some ⟨b, off, none⟩) ∧ ldK E.P ty = some (agg, n) ∧ (cs.length == n) = true ∧ At W b off cs ∧ v = toV agg cs := by
  unfold trkLoad at h
  split at h
  · cases h
  · rename_i id off hid
    split at h
    · cases h
    · rename_i b hb
      split at h
      · rename_i agg n hk
        split at h
        · rename_i hn
          simp at h; subst h
          have hm := lookB_mem hb
          refine ⟨b.n, off, agg, n, (b.cs.drop off).take n, (hT.p s id off (findN_mem hid)).2 b hm, hk, hn, ?_, rfl⟩
          have hbk := hL.blk b (mem_blks.2 ⟨id, hm⟩)
          refine (AtL_block hbk ?_).h
          have : ((b.cs.drop off).take n).length = n := by simpa using hn
          rw [this]
        · cases h
      · cases h
theorem Same.dst {t t' : Array Value} {dst : Option Nat} {v : Value} (h : t' = (({ tmps := t, defers := [] } : Act).put dst v).tmps) : Same dst.toList t t' := by rw [h]; exact .put t dst v
theorem run_fieldAt {P : Program} {st : TypeId} {f k b o : Nat} {w : World} (h : fieldOff P st f = some k) : (Instr.fieldAt st (.pointer (some ⟨b, o, none⟩)) f).run P w = .ok (.pointer (some ⟨b, o + k, none⟩)) w := by
  unfold fieldOff at h
  split at h
  · rename_i fs hu
    split at h
    · rename_i fd hfd
      split at h
      · cases h
      · rename_i m hsz
        simp at h; subst h
        have hU := run_underlying' (w := w) hu
        have hS := run_sizeOf' (w := w) hsz
        simp [Instr.fieldAt, hU, hfd, Instr.sureAddr, fieldPlace, hS, add_plain]
      · cases h
    · cases h
  · cases h
end Go.Proofs.YtgmmoghagpmpfaaGreatDoor

/- The symbolic evaluator, eighth part: soundness of the sixth, operations. Generic: no program, no condition. -/
namespace Go.Proofs.YtgmmoghagpmpfaaGreatDoor
open Go.RowKit

theorem inB_get {l : Fr} {t : Array Value} (h : Rel l t) {d : Nat} (hb : inB (some d) l = true) (v : Value) : (({ tmps := t, defers := [] } : Act).put (some d) v).tmps.getD d undef = v := by
  have hd : d < l.length := by simpa [inB] using hb
  have : d < t.size := by rw [h.size]; exact hd
  show (t.setIfInBounds d v).getD d undef = v
  exact getD_set_eq v this
theorem tag_addTg {B : Bs} {T : Trk} {t : Array Value} {l : Fr} {dst : Option Nat} {id off : Nat} {b : Blk} (hR : Rel l t) (hi : inB dst l = true) (h : TagOK B T t) {s o' : Nat} (hs : (s, id, o') ∈ T.tg) (hsame : ∀ b', (id, b') ∈ B ++ T.bs → b'.n = b.n) :
    TagOK B (addTg dst id off T) (({ tmps := t, defers := [] } : Act).put dst (.pointer (some ⟨b.n, off, none⟩))).tmps := by
  have hS := Same.put t dst (.pointer (some ⟨b.n, off, none⟩))
  cases dst with
  | none => exact h.of (fun x hx => ⟨hx, hS.at_ _ (by simp)⟩) (fun x hx => ⟨hx, hS.at_ _ (by simp)⟩) (fun x hx => ⟨x, hx, rfl, rfl⟩) (Nat.le_refl _)
  | some d =>
    have h0 := h.put hS
    refine ⟨fun s i o hx => ?_, fun s i hx => h0.s s i hx, h0.lt⟩
    rcases List.mem_cons.1 hx with hx | hx
    · cases hx
      refine ⟨(h.p _ _ _ hs).1, fun b' hb' => ?_⟩
      rw [inB_get hR hi, hsame b' hb']
    · exact h0.p s i o hx
theorem tag_addSg {B : Bs} {T : Trk} {t : Array Value} {l : Fr} {dst : Option Nat} {id m : Nat} {b : Blk} (hR : Rel l t) (hi : inB dst l = true) (h : TagOK B T t) {s o' : Nat} (hs : (s, id, o') ∈ T.tg) (hsame : ∀ b', (id, b') ∈ B ++ T.bs → b'.n = b.n) :
    TagOK B (addSg dst id T) (({ tmps := t, defers := [] } : Act).put dst (.slice (some ⟨b.n, 0, none⟩) m m)).tmps := by
  have hS := Same.put t dst (.slice (some ⟨b.n, 0, none⟩) m m)
  cases dst with
  | none => exact h.of (fun x hx => ⟨hx, hS.at_ _ (by simp)⟩) (fun x hx => ⟨hx, hS.at_ _ (by simp)⟩) (fun x hx => ⟨x, hx, rfl, rfl⟩) (Nat.le_refl _)
  | some d =>
    have h0 := h.put hS
    refine ⟨fun s i o hx => h0.p s i o hx, fun s i hx => ?_, h0.lt⟩
    rcases List.mem_cons.1 hx with hx | hx
    · cases hx
      refine ⟨(h.p _ _ _ hs).1, fun b' hb' => ⟨m, m, ?_⟩⟩
      rw [inB_get hR hi, hsame b' hb']
    · exact h0.s s i hx
/-- All blocks of one number in mind are one. -/
theorem TagOK.same {B : Bs} {T : Trk} {t : Array Value} (h : TagOK B T t) {s id off : Nat} (hs : (s, id, off) ∈ T.tg) {b : Blk} (hb : (id, b) ∈ B ++ T.bs) : ∀ b', (id, b') ∈ B ++ T.bs → b'.n = b.n := fun b' hb' => by
  have h1 := (h.p _ _ _ hs).2 b hb
  have h2 := (h.p _ _ _ hs).2 b' hb'
  rw [h1] at h2
  simp at h2
  exact h2.symm
theorem isNone_eq {α : Type} {x : Option α} (h : isNone' x = true) : x = none := by cases x with | none => rfl | some _ => cases h

section
variable {E : Env} (hp : PurOK E) {ops : Array Oper} {z : Nat} {B : Bs}
omit hp in
theorem trkAddr_ok {T : Trk} {o : Oper} {t : Array Value} {w : World} {id n off : Nat} (h : trkAddr E B T o = some (id, n, off)) (hT : TagOK B T t) :
    o.guard = none ∧ (∃ b s o', (id, b) ∈ B ++ T.bs ∧ b.n = n ∧ (s, id, o') ∈ T.tg) ∧ YieldsV E.P o { tmps := t, defers := [] } w (.pointer (some ⟨n, off, none⟩)) := by
  obtain ⟨dst, op, ty, pos, aft, gd⟩ := o
  unfold trkAddr at h
  split at h
  · cases h
  rename_i hg
  refine ⟨isNone_eq hg, ?_⟩
  simp only at h
  have cpy : ∀ {s : Nat} {id' off' : Nat} {b : Blk}, findN s T.tg = some (id', off') → lookB B T id' = some b → (∃ b' s o', (id', b') ∈ B ++ T.bs ∧ b'.n = b.n ∧ (s, id', o') ∈ T.tg) ∧ t.getD s undef = .pointer (some ⟨b.n, off', none⟩) := fun h1 h2 =>
    ⟨⟨_, _, _, lookB_mem h2, rfl, findN_mem h1⟩, (hT.p _ _ _ (findN_mem h1)).2 _ (lookB_mem h2)⟩
  split at h
  · rename_i st s f
    split at h
    · rename_i id' off' hf
      split at h
      · rename_i b k hb hk
        simp at h
        obtain ⟨rfl, rfl, rfl⟩ := h
        obtain ⟨h1, h2⟩ := cpy hf hb
        refine ⟨h1, .inl ?_⟩
        have := run_fieldAt (w := w) (b := b.n) (o := off') hk
        simp only [execOp, Act.eval, h2]
        simp [this]
      · cases h
    · cases h
  · rename_i tt s k i
    split at h
    · rename_i id' off' hf
      split at h
      · rename_i b m e hb hu
        split at h
        · rename_i sz hsz hi
          simp at h
          obtain ⟨rfl, rfl, rfl⟩ := h
          obtain ⟨h1, h2⟩ := cpy hf hb
          refine ⟨h1, .inl ?_⟩
          have hU := run_underlying' (w := w) hu
          have hS := run_sizeOf' (w := w) hsz
          simp only [Bool.and_eq_true, decide_eq_true_eq] at hi
          simp only [execOp, Act.eval, h2]
          simp [Instr.indexAt, asIntOf, hU, hi.1, hi.2, hS, add_plain, idx_eq, Instr.sureAddr]
        · cases h
      · cases h
    · cases h
  · rename_i s
    split at h
    · rename_i id' off' hf
      split at h
      · rename_i b hb
        simp at h
        obtain ⟨rfl, rfl, rfl⟩ := h
        obtain ⟨h1, h2⟩ := cpy hf hb
        refine ⟨h1, .inl ?_⟩
        simp only [execOp, Act.eval, h2]
        rfl
      · cases h
    · cases h
  · rename_i s
    split at h
    · rename_i id' off' hf
      split at h
      · rename_i b hb
        simp at h
        obtain ⟨rfl, rfl, rfl⟩ := h
        obtain ⟨h1, h2⟩ := cpy hf hb
        refine ⟨h1, .inl ?_⟩
        simp only [execOp, Act.eval, h2]
        rfl
      · cases h
    · cases h
  · rename_i s
    split at h
    · rename_i id' off' hf
      split at h
      · rename_i b hb
        simp at h
        obtain ⟨rfl, rfl, rfl⟩ := h
        obtain ⟨h1, h2⟩ := cpy hf hb
        refine ⟨h1, .inl ?_⟩
        simp only [execOp, Act.eval, h2]
        rfl
      · cases h
    · cases h
  · cases h
omit hp in
theorem trkSlice_ok {T : Trk} {o : Oper} {t : Array Value} {w : World} {id n m : Nat} (h : trkSlice E B T o = some (id, n, m)) (hT : TagOK B T t) :
    o.guard = none ∧ (∃ b s o', (id, b) ∈ B ++ T.bs ∧ b.n = n ∧ (s, id, o') ∈ T.tg) ∧ YieldsV E.P o { tmps := t, defers := [] } w (.slice (some ⟨n, 0, none⟩) m m) := by
  obtain ⟨dst, op, ty, pos, aft, gd⟩ := o
  unfold trkSlice at h
  split at h
  · cases h
  rename_i hg
  refine ⟨isNone_eq hg, ?_⟩
  simp only at h
  split at h
  · rename_i tt s
    split at h
    · rename_i id' hf
      split at h
      · rename_i b k e hb hu
        split at h
        · rename_i sz hsz
          simp at h
          obtain ⟨rfl, rfl, rfl⟩ := h
          have h2 := (hT.p _ _ _ (findN_mem hf)).2 _ (lookB_mem hb)
          refine ⟨⟨_, _, _, lookB_mem hb, rfl, findN_mem hf⟩, .inl ?_⟩
          have hU := run_underlying' (w := w) hu
          have hS := run_sizeOf' (w := w) hsz
          simp only [execOp, Act.eval, h2]
          simp [Instr.sliceAt, hU, Instr.sureAddr, Instr.sliceBounds, hS, Addr.add]
        · cases h
      · cases h
    · cases h
  · cases h
include hp
theorem still2_ok {o : Oper} {l : Fr} {T : Trk} {w W : World} {tmps : Array Value} {ctx : Option (Nat × Bool)} {K : Fr → Trk → World → Prop} (h : Rel l tmps) (hT : TagOK B T tmps) (hL : LocD z B T w W)
    (hwo : Region.wanted o (yielded ops tmps) = true ↔ Wants tmps ctx) (hg0 : o.guard = none → ctx = none) (hf : still2 E z B o ctx l T w K) :
    ∃ v l' T' w', K l' T' w' ∧ Rel l' (({ tmps, defers := [] } : Act).put o.dst v).tmps ∧ TagOK B T' (({ tmps, defers := [] } : Act).put o.dst v).tmps ∧ LocD z B T' w' W ∧
      ((Region.wanted o (yielded ops tmps) = true ∧ YieldsV E.P o { tmps, defers := [] } W v) ∨ (Region.wanted o (yielded ops tmps) = false ∧ v = undef)) := by
  have hLu : ∀ {T : Trk} {w : World}, LocD z B T w W → LocD z B (T.untag o.dst) w W := fun {T w} hL => ⟨by unfold allB; rw [untag_bs]; exact hL.l, by unfold Trk.untag; split <;> exact hL.d, hL.b0⟩
  unfold still2 at hf
  split at hf
  · rename_i v hl
    obtain ⟨tt, s, hop, hl⟩ : ∃ tt s, o.op = .load tt (.tmp s) ∧ trkLoad E B T s tt = some (some v) := by
      split at hl
      · rename_i tt s hop; exact ⟨tt, s, hop, hl⟩
      · cases hl
    split at hf
    · rename_i hd
      have hW := deadB_ok h 12 ctx hd
      refine ⟨undef, _, _, _, hf, h.fin (ctx := none) (fun _ => rfl) (fun hn => absurd trivial hn), hT.put (.put _ _ _), hLu hL, .inr ⟨?_, rfl⟩⟩
      cases hw : Region.wanted o (yielded ops tmps) with
      | true => exact absurd (hwo.1 hw) hW
      | false => rfl
    · split at hf
      · obtain ⟨b, off, agg, n, cs, h1, h2, h3, h4, rfl⟩ := trkLoad_ok hl hT hL.l
        cases hw : Region.wanted o (yielded ops tmps) with
        | true =>
          have hW := hwo.1 hw
          refine ⟨_, _, _, _, hf, h.fin (fun _ => rfl) (fun hn => absurd hW hn), hT.put (.put _ _ _), hLu hL, .inl ⟨rfl, .inl ?_⟩⟩
          obtain ⟨dst, op, ty, pos, aft, gd⟩ := o
          simp only at hop; subst hop
          have := run_loadAt h2 h3 h4
          simp only [execOp, Act.eval, h1]
          simp [this]
        | false =>
          have hW : ¬ Wants tmps ctx := fun hW => by rw [hwo.2 hW] at hw; cases hw
          exact ⟨undef, _, _, _, hf, h.fin (fun hy => absurd hy hW) (fun _ => rfl), hT.put (.put _ _ _), hLu hL, .inr ⟨rfl, rfl⟩⟩
      · exact hf.elim
  · exact hf.elim
  · split at hf
    · rename_i id n off ha
      obtain ⟨h1, ⟨b, s, o', h2, rfl, h3⟩, h4⟩ := trkAddr_ok (w := W) ha hT
      split at hf
      · rename_i hi
        have hc := hg0 h1
        subst hc
        refine ⟨_, _, _, _, hf, h.fin (ctx := none) (fun _ => rfl) (fun hn => absurd trivial hn), tag_addTg h hi hT h3 (hT.same h3 h2), ?_, .inl ⟨hwo.2 trivial, h4⟩⟩
        unfold addTg
        split
        · exact hL
        · exact ⟨hL.l, hL.d, hL.b0⟩
      · exact hf.elim
    · split at hf
      · rename_i id n m ha
        obtain ⟨h1, ⟨b, s, o', h2, rfl, h3⟩, h4⟩ := trkSlice_ok (w := W) ha hT
        split at hf
        · rename_i hi
          have hc := hg0 h1
          subst hc
          refine ⟨_, _, _, _, hf, h.fin (ctx := none) (fun _ => rfl) (fun hn => absurd trivial hn), tag_addSg h hi hT h3 (hT.same h3 h2), ?_, .inl ⟨hwo.2 trivial, h4⟩⟩
          unfold addSg
          split
          · exact hL
          · exact ⟨hL.l, hL.d, hL.b0⟩
        · exact hf.elim
      · obtain ⟨T', w', hs, hT', hL'⟩ := dropF_ok hf hT hL
        obtain ⟨v, l', h1, h2, h3⟩ := still_ok0 hp h hwo hs
        refine ⟨v, l', _, _, h1, h2, hT'.put (.put _ _ _), hLu hL', ?_⟩
        rcases h3 with ⟨hw, hy⟩ | hw
        · exact .inl ⟨hw, hy W (fun φ hφ => syncF_use hφ hL')⟩
        · exact .inr hw
omit hp in
theorem ctx_guard {o : Oper} {ctx : Option (Nat × Bool)} (hc : ctxOf ops o = some ctx) (hg : o.guard = none) : ctx = none := by
  unfold ctxOf at hc
  rw [hg] at hc
  simp at hc; exact hc.symm
theorem stillOps2_ok {W : World} {K : Fr → Trk → World → Prop} {Q : Act → Prop} : ∀ (r : List Oper) (l : Fr) (T : Trk) (w : World) (tmps : Array Value), Rel l tmps → TagOK B T tmps → LocD z B T w W → stillOps2 E z B ops K r l T w →
    (∀ l' tmps' T' w', Rel l' tmps' → Same (r.filterMap (·.dst)) tmps tmps' → TagOK B T' tmps' → LocD z B T' w' W → K l' T' w' → Q { tmps := tmps', defers := [] }) → wpStill E.P ops W Q r { tmps, defers := [] }
  | [], l, T, w, tmps, h, hT, hL, hf, hQ => hQ l tmps T w h (.refl _ _) hT hL hf
  | o :: r, l, T, w, tmps, h, hT, hL, hf, hQ => by
    simp only [stillOps2] at hf
    cases hc : ctxOf ops o with
    | none => rw [hc] at hf; exact hf.elim
    | some ctx =>
      rw [hc] at hf
      simp only at hf
      obtain ⟨v, l', T', w', h1, h2, hT', hL', h3⟩ := still2_ok hp h hT hL (wanted_ok (tmps := tmps) hc) (ctx_guard hc) hf
      have next : wpStill E.P ops W Q r (({ tmps, defers := [] } : Act).put o.dst v) := by
        rw [put_act]
        refine stillOps2_ok r l' T' w' _ h2 hT' hL' h1 (fun l'' t'' T'' w'' hr hs hT2 hL2 hk => hQ l'' t'' T'' w'' hr ?_ hT2 hL2 hk)
        have := (Same.put tmps o.dst v).trans hs
        refine this.mono fun i hi => ?_
        rcases List.mem_append.1 hi with hi | hi
        · cases hd : o.dst with
          | none => simp [hd] at hi
          | some d => simp [hd] at hi; simp [hd, hi]
        · cases hd : o.dst with
          | none => simpa [hd] using hi
          | some d => simp only [List.filterMap_cons, hd, List.mem_cons]; exact .inr hi
      unfold wpStill
      rcases h3 with ⟨hw, hy⟩ | ⟨hw, rfl⟩
      · rw [if_pos hw]
        unfold Oper.still
        rcases hy with hy | ⟨_, f, args, hy, hcall⟩
        · rw [hy]; exact ⟨rfl, next⟩
        · rw [hy]; exact ⟨rfl, v, hcall, next⟩
      · rw [if_neg (by simp [hw])]
        exact next
end

end Go.Proofs.YtgmmoghagpmpfaaGreatDoor

/- The symbolic evaluator, ninth part: soundness of the sixth, effects. Generic: no program, no condition. -/
namespace Go.Proofs.YtgmmoghagpmpfaaGreatDoor
open Go.RowKit

theorem putL_repl : ∀ (vs c : List Value) (o : Nat), o + vs.length ≤ c.length → putL c o vs = repl c o vs.length vs
  | [], c, o, _ => by simp [putL, repl]
  | v :: r, c, o, h => by
    have hl : o < c.length := by simp at h; omega
    simp only [putL]
    rw [putL_repl r (c.set o v) (o + 1) (by simp at h ⊢; omega)]
    unfold repl
    rw [List.set_eq_take_append_cons_drop, if_pos hl]
    have e1 : (c.take o).length = o := by rw [List.length_take]; omega
    rw [show c.take o ++ v :: c.drop (o + 1) = (c.take o ++ [v]) ++ c.drop (o + 1) by simp]
    rw [List.take_append_of_le_length (by simp; omega), List.take_of_length_le (by simp; omega)]
    rw [List.drop_append]
    have e2 : (c.take o ++ [v]).length = o + 1 := by simp [e1]
    rw [List.drop_eq_nil_of_le (by omega), e2, List.drop_drop]
    simp only [List.length_cons, List.append_assoc, List.cons_append, List.nil_append]
    rw [show o + 1 + (o + 1 + r.length - (o + 1)) = o + (r.length + 1) by omega]
theorem WrF_at {w : World} {b o n : Nat} {c : Array Value} {t : TypeId} (h : w.heap[b]? = some (.cells c t (0, 0))) (hn : o + n ≤ c.size) : WrF w b o n := by
  match n, hn with
  | 0, _ => trivial
  | 1, hn =>
    refine ⟨⟨c[o], ?_⟩, frozen_block h _⟩
    rw [cell_block h]
    simp
  | n + 2, hn => exact WrL_block h hn
theorem setB_mem {id : Nat} {cs : List Value} : ∀ {l : Bs} {x : Nat × Blk}, x ∈ setB id cs l → ∃ y ∈ l, y.1 = x.1 ∧ y.2.n = x.2.n
  | [], x, h => by simp [setB] at h
  | y :: r, x, h => by
    simp only [setB] at h
    cases hj : y.1 == id with
    | true =>
      rw [hj] at h
      rcases List.mem_cons.1 h with h | h
      · subst h; exact ⟨y, List.mem_cons_self, rfl, rfl⟩
      · exact ⟨x, List.mem_cons_of_mem _ h, rfl, rfl⟩
    | false =>
      rw [hj] at h
      rcases List.mem_cons.1 h with h | h
      · subst h; exact ⟨x, List.mem_cons_self, rfl, rfl⟩
      · obtain ⟨y', h1, h2⟩ := setB_mem h
        exact ⟨y', List.mem_cons_of_mem _ h1, h2⟩
/-- One block of the list is written. -/
theorem setB_split {id : Nat} {cs : List Value} : ∀ {l : Bs} {b : Blk}, findN id l = some b → ∃ l1 l2, l = l1 ++ (id, b) :: l2 ∧ setB id cs l = l1 ++ (id, ⟨b.n, b.t, cs, wrM b.m⟩) :: l2
  | [], b, h => by simp [findN] at h
  | (j, y) :: r, b, h => by
    simp only [findN] at h
    cases hj : id == j with
    | true =>
      have e : id = j := by simpa using hj
      subst e
      rw [hj] at h
      simp at h; subst h
      exact ⟨[], r, rfl, by simp [setB]⟩
    | false =>
      rw [hj] at h
      obtain ⟨l1, l2, h1, h2⟩ := setB_split (cs := cs) h
      have hj' : (j == id) = false := by
        cases hx : j == id with
        | false => rfl
        | true => have : j = id := by simpa using hx
                  subst this; simp at hj
      refine ⟨(j, y) :: l1, l2, by rw [h1]; rfl, ?_⟩
      simp only [setB, hj', h2]
      rfl
theorem loc_store {z : Nat} {T T' : List Blk} {l1 l2 : List Blk} {b : Blk} {cs : List Value} {w W w1 : World} (h : Loc z T w W) (e : T = l1 ++ b :: l2) (e' : T' = l1 ++ ⟨b.n, b.t, cs, wrM b.m⟩ :: l2) (hk : Kp (· = b.n) W w1) (hb : w1.heap[b.n]? = some (.cells cs.toArray b.t (0, 0))) : Loc z T' w w1 := by
  subst e; subst e'
  generalize hm : wrM b.m = m
  unfold wrM at hm
  have hnd := h.ne
  rw [List.map_append, List.map_cons] at hnd
  have hne : ∀ x ∈ l1 ++ l2, x.n ≠ b.n := fun x hx => by
    have hp : (l1.map (·.n) ++ b.n :: l2.map (·.n)).Perm (b.n :: (l1.map (·.n) ++ l2.map (·.n))) := List.perm_middle
    have := hp.nodup_iff.1 hnd
    intro e
    refine (List.nodup_cons.1 this).1 ?_
    rw [← List.map_append, ← e]
    exact List.mem_map.2 ⟨x, hx, rfl⟩
  have mem : ∀ {x : Blk} {y : Blk}, x ∈ l1 ++ y :: l2 → x ∈ l1 ++ l2 ∨ x = y := fun {x y} hx => by
    rcases List.mem_append.1 hx with h1 | h1
    · exact .inl (List.mem_append.2 (.inl h1))
    · rcases List.mem_cons.1 h1 with h1 | h1
      · exact .inr h1
      · exact .inl (List.mem_append.2 (.inr h1))
  have mem' : ∀ {x y : Blk}, x ∈ l1 ++ l2 → x ∈ l1 ++ y :: l2 := fun {x y} hx => by
    rcases List.mem_append.1 hx with h1 | h1
    · exact List.mem_append.2 (.inl h1)
    · exact List.mem_append.2 (.inr (List.mem_cons_of_mem _ h1))
  have self : ∀ {y : Blk}, y ∈ l1 ++ y :: l2 := List.mem_append.2 (.inr List.mem_cons_self)
  refine ⟨⟨hk.os.trans h.kp.os, hk.tape.trans h.kp.tape, hk.output.trans h.kp.output, Nat.le_trans h.kp.size hk.size, fun k hlt hn => ?_⟩, fun x hx => ?_, fun x hx => ?_, ?_, fun x hx h2 => ?_, h.hz⟩
  · by_cases hkb : k = b.n
    · exfalso
      cases hb2 : b.m == 2 with
      | true =>
        have hb2 : b.m = 2 := by simpa using hb2
        have := h.nw b self hb2
        omega
      | false =>
        rw [hb2] at hm
        simp at hm
        exact hn ⟨_, self, hm.symm, hkb.symm⟩
    · rw [hk.block k (Nat.lt_of_lt_of_le hlt h.kp.size) hkb]
      refine h.kp.block k hlt (fun ⟨x, hx, h1, h2⟩ => ?_)
      rcases mem hx with hx | hx
      · exact hn ⟨x, mem' hx, h1, h2⟩
      · subst hx; exact hkb h2.symm
  · rcases mem hx with hx | hx
    · exact hk.blk (h.blk x (mem' hx)) (hne x hx)
    · subst hx; exact hb
  · rcases mem hx with hx | hx
    · exact h.ge x (mem' hx)
    · subst hx; exact h.ge b self
  · rw [List.map_append, List.map_cons]; exact hnd
  · rcases mem hx with hx | hx
    · exact h.nw x (mem' hx) h2
    · subst hx
      simp only at h2
      subst h2
      cases hb2 : b.m == 2 with
      | true => exact h.nw b self (by simpa using hb2)
      | false => rw [hb2] at hm; simp at hm
theorem loc_new {z : Nat} {T : List Blk} {w W : World} (h : Loc z T w W) (t : TypeId) (cs : Array Value) : Loc z (⟨W.heap.size, t, cs.toList, 2⟩ :: T) w (W.alloc (.cells cs t)) := by
  have hn : NewB W (.cells cs t) W.heap.size (W.alloc (.cells cs t)) := ⟨rfl, rfl⟩
  have hk := hn.kp (fun _ => False)
  refine ⟨(h.kp.mono (fun i _ ⟨x, hx, e⟩ => ⟨x, List.mem_cons_of_mem _ hx, e⟩)).trans (hk.mono (fun _ _ h => h.elim)), fun x hx => ?_, fun x hx => ?_, ?_, fun x hx h2 => ?_, h.hz⟩
  · rcases List.mem_cons.1 hx with h1 | h1
    · subst h1; simpa using hn.block
    · exact hk.blk (h.blk x h1) (fun h => h)
  · rcases List.mem_cons.1 hx with h1 | h1
    · subst h1; exact Nat.le_trans h.hz h.kp.size
    · exact h.ge x h1
  · rw [List.map_cons]
    refine List.nodup_cons.2 ⟨fun hx => ?_, h.ne⟩
    obtain ⟨x, hx, e⟩ := List.mem_map.1 hx
    have := block_lt (h.blk x hx)
    simp only at e
    omega
  · rcases List.mem_cons.1 hx with h1 | h1
    · subst h1; exact h.kp.size
    · exact h.nw x h1 h2
/-- A new block in mind. -/
theorem tag_new {B : Bs} {T : Trk} {t t' : Array Value} {dst : Option Nat} {b : Blk} (hS : Same dst.toList t t') (h : TagOK B T t) : TagOK B ⟨(T.nx, b) :: (T.untag dst).bs, (T.untag dst).tg, (T.untag dst).sg, T.nx + 1, true⟩ t' := by
  have h0 := h.put hS
  have hn : (T.untag dst).nx = T.nx := by unfold Trk.untag; split <;> rfl
  have mem : ∀ (i : Nat) (b' : Blk), i < T.nx → (i, b') ∈ B ++ (T.nx, b) :: (T.untag dst).bs → (i, b') ∈ B ++ (T.untag dst).bs := fun i b' hi hb' => by
    rcases List.mem_append.1 hb' with hb' | hb'
    · exact List.mem_append.2 (.inl hb')
    · rcases List.mem_cons.1 hb' with hb' | hb'
      · cases hb'; omega
      · exact List.mem_append.2 (.inr hb')
  refine ⟨fun s i o hx => ?_, fun s i hx => ?_, fun x hx => ?_⟩
  · obtain ⟨h1, h2⟩ := h0.p s i o hx
    rw [hn] at h1
    exact ⟨by show i < T.nx + 1; omega, fun b' hb' => h2 b' (mem i b' h1 hb')⟩
  · obtain ⟨h1, h2⟩ := h0.s s i hx
    rw [hn] at h1
    exact ⟨by show i < T.nx + 1; omega, fun b' hb' => h2 b' (mem i b' h1 hb')⟩
  · show x.1 < T.nx + 1
    have key : x ∈ B ++ (T.untag dst).bs → x.1 < T.nx + 1 := fun hx => by have := h0.lt x hx; omega
    rcases List.mem_append.1 hx with hx | hx
    · exact key (List.mem_append.2 (.inl hx))
    · rcases List.mem_cons.1 hx with hx | hx
      · subst hx; show T.nx < T.nx + 1; omega
      · exact key (List.mem_append.2 (.inr hx))
theorem new_one {B : Bs} {T : Trk} {dst : Option Nat} {t : Array Value} (h : TagOK B T t) {b b' : Blk} (hb : (T.nx, b') ∈ B ++ (T.nx, b) :: (T.untag dst).bs) : b' = b := by
  have no : ∀ x ∈ B ++ T.bs, x.1 = T.nx → False := fun x hx e => by have := h.lt x hx; omega
  rcases List.mem_append.1 hb with hb | hb
  · exact (no _ (List.mem_append.2 (.inl hb)) rfl).elim
  · rcases List.mem_cons.1 hb with hb | hb
    · cases hb; rfl
    · rw [untag_bs] at hb
      exact (no _ (List.mem_append.2 (.inr hb)) rfl).elim
theorem tag_add {B : Bs} {T : Trk} {t : Array Value} {l : Fr} {dst : Option Nat} {b : Blk} (hR : Rel l t) (hi : inB dst l = true) (h : TagOK B T t) : TagOK B (T.add b dst) (({ tmps := t, defers := [] } : Act).put dst (.pointer (some ⟨b.n, 0, none⟩))).tmps := by
  have base := tag_new (b := b) (Same.put t dst (.pointer (some ⟨b.n, 0, none⟩))) h
  cases dst with
  | none => exact base
  | some d =>
    refine ⟨fun s i o hx => ?_, fun s i hx => base.s s i hx, base.lt⟩
    rcases List.mem_cons.1 hx with hx | hx
    · cases hx
      refine ⟨by show T.nx < T.nx + 1; omega, fun b' hb' => ?_⟩
      rw [inB_get hR hi, new_one (dst := some d) h hb']
    · exact base.p s i o hx
theorem tag_addS {B : Bs} {T : Trk} {t : Array Value} {l : Fr} {dst : Option Nat} {b : Blk} {m : Nat} (hR : Rel l t) (hi : inB dst l = true) (h : TagOK B T t) : TagOK B (T.addS b dst) (({ tmps := t, defers := [] } : Act).put dst (.slice (some ⟨b.n, 0, none⟩) m m)).tmps := by
  have base := tag_new (b := b) (Same.put t dst (.slice (some ⟨b.n, 0, none⟩) m m)) h
  cases dst with
  | none => exact base
  | some d =>
    refine ⟨fun s i o hx => base.p s i o hx, fun s i hx => ?_, base.lt⟩
    rcases List.mem_cons.1 hx with hx | hx
    · cases hx
      refine ⟨by show T.nx < T.nx + 1; omega, fun b' hb' => ⟨m, m, ?_⟩⟩
      rw [inB_get hR hi, new_one (dst := some d) h hb']
    · exact base.s s i hx
/-! ### New blocks -/
theorem run_alloc2 {P : Program} {w : World} {t : TypeId} {v : Value} (h : Sem.ev P (zeroValue t) = some v) : (Instr.alloc t true (.tuple #[])).run P w = .ok (.pointer (some ⟨w.heap.size, 0, none⟩)) (w.alloc (.cells v.cells t)) := by
  have hz := ev_run h w
  simp [Instr.alloc, hz, newVar, newRow, newObj, Sem.run]
theorem run_box2 {P : Program} {w : World} {t : TypeId} {v : Value} : (Instr.box t v).run P w = .ok (.pointer (some ⟨w.heap.size, 0, none⟩)) (w.alloc (.cells v.cells t)) := by
  simp [Instr.box, newVar, newRow, newObj, Sem.run]
theorem bind_assoc2 {α β γ : Type} (s : Sem α) (f : α → Sem β) (g : β → Sem γ) : (s.bind f).bind g = s.bind fun a => (f a).bind g := by
  induction s with
  | pure a => rfl
  | halt h => rfl
  | mark m k ih => simp only [Sem.bind, ih]
  | _ => first | (simp only [Sem.bind]; congr 1; funext x; rename_i ih; exact ih x) | (simp only [Sem.bind]; rename_i ih; rw [ih]) | (simp only [Sem.bind]; congr 1; funext x y; rename_i ih; exact ih x y)
theorem buildSlice_eq (t : TypeId) (len : Nat) (parts : Array (Nat × Value)) : Instr.buildSlice t len parts = Sem.bind (rowS2 t len parts) fun x => Sem.bind (newRow x.1 x.2) fun a => Sem.pure (.slice (some a) len len) := by
  unfold Instr.buildSlice rowS2
  simp only [bind, pure]
  rw [bind_assoc2]
  congr 1; funext d
  cases d with
  | slice e =>
    simp only
    rw [bind_assoc2]
    congr 1; funext size
    split
    · rfl
    · simp only [Sem.bind]
      have key : ∀ r : Option (Array Value), (match r with | some cells => (newRow e cells).bind fun a => Sem.pure (Value.slice (some a) len len) | _ => stuck "buildSlice: a part of the wrong size") = (match r with | some cells => Sem.pure (e, cells) | _ => stuck "buildSlice: a part of the wrong size").bind fun x => (newRow x.1 x.2).bind fun a => Sem.pure (Value.slice (some a) len len) := fun r => by cases r <;> rfl
      split
      · exact key _
      · rw [bind_assoc2]
        congr 1; funext zero
        exact key _
  | _ => rfl
theorem run_slice2 {P : Program} {w : World} {t : TypeId} {len : Nat} {parts : Array (Nat × Value)} {e : TypeId} {cells : Array Value} (h : Sem.ev P (rowS2 t len parts) = some (e, cells)) : (Instr.buildSlice t len parts).run P w = .ok (.slice (some ⟨w.heap.size, 0, none⟩) len len) (w.alloc (.cells cells e)) := by
  have hr := ev_run h w
  rw [buildSlice_eq]
  show (rowS2 t len parts >>= _).run P w = _
  rw [Sem.run_bind, hr]
  simp [newRow, newObj, Sem.run, Sem.bind, bind, pure]

section
variable {E : Env} (hp : PurOK E) {ops : Array Oper} {z : Nat} {B : Bs}
theorem trkStore_ok {T T' : Trk} {l : Fr} {o : Oper} {t : Array Value} {w W : World} (hs : trkStore E T l o.op = some (some T')) (h : Rel l t) (hT : TagOK B T t) (hL : LocD z B T w W) :
    ∃ W', (execOp ({ tmps := t, defers := [] } : Act).eval o).run E.P W = .ok .skip W' ∧ TagOK B T' t ∧ LocD z B T' w W' := by
  obtain ⟨dst, op, ty, pos, aft, gd⟩ := o
  unfold trkStore at hs
  simp only at hs
  split at hs
  · rename_i tt s v
    split at hs
    · rename_i id off hid
      split at hs
      · rename_i b hb
        split at hs
        · rename_i y n hv hsz
          split at hs
          · rename_i hc
            simp only [Bool.and_eq_true] at hc
            obtain ⟨h1, h2, h3⟩ := hc
            simp at hs; subst hs
            have hm : (id, b) ∈ B ++ T.bs := List.mem_append.2 (.inr (findN_mem hb))
            have hx := (hT.p s id off (findN_mem hid)).2 b hm
            have ey := rd_ok (ds := []) h (fun _ _ hm => by simp at hm) hv
            have hbk := hL.l.blk b (mem_blks.2 ⟨id, hm⟩)
            have hn : y.cells.size = n := by simpa using h1
            have hle : off + n ≤ b.cs.length := by simpa using Nat.le_of_ble_eq_true h3
            have hS : storeF E tt (.pointer (some ⟨b.n, off, none⟩)) y W (fun w1 => PutB W b.n off y.cells.toList w1) := by
              unfold storeF
              rw [hsz, h2]
              simp only [h1]
              exact ⟨WrF_at hbk (by simpa using hle), fun w1 h => h⟩
            obtain ⟨W', hr, hput⟩ := storeF_ok hS
            refine ⟨W', ?_, ?_, ?_⟩
            · have hx' : ({ tmps := t, defers := [] } : Act).eval (.tmp s) = .pointer (some ⟨b.n, off, none⟩) := hx
              simp only [execOp, hx', ey]
              simp [hr]
            · refine hT.of (fun x hx => ⟨hx, rfl⟩) (fun x hx => ⟨hx, rfl⟩) (fun x hx => ?_) (Nat.le_refl _)
              rcases List.mem_append.1 hx with hx | hx
              · exact ⟨x, List.mem_append.2 (.inl hx), rfl, rfl⟩
              · obtain ⟨y, h1, h2⟩ := setB_mem hx
                exact ⟨y, List.mem_append.2 (.inr h1), h2⟩
            · obtain ⟨l1, l2, e1, e2⟩ := setB_split (cs := repl b.cs off n y.cells.toList) hb
              refine ⟨?_, (fun h => by cases h), hL.b0⟩
              refine loc_store (l1 := blksOf (B ++ l1)) (l2 := blksOf l2) (b := b) (cs := repl b.cs off n y.cells.toList) hL.l ?_ ?_ hput.kp ?_
              · unfold allB; rw [e1]; simp [blksOf_eq]
              · unfold allB; rw [e2]; simp [blksOf_eq]
              · have := hput.block hbk
                rw [this]
                rw [show (b.cs.toArray).toList = b.cs by simp, putL_repl _ _ _ (by simpa [hn] using hle)]
                simp [hn]
          · cases hs
        · cases hs
      · cases hs
    · cases hs
  · cases hs
end

end Go.Proofs.YtgmmoghagpmpfaaGreatDoor

/- The symbolic evaluator, tenth part: from a formula with own blocks to the contract. Generic: no program, no condition. -/
namespace Go.Proofs.YtgmmoghagpmpfaaGreatDoor
open Go.RowKit

theorem loc_add {z : Nat} {B l : Bs} {i : Nat} {b : Blk} {w W : World} (h : Loc z (b :: blksOf (B ++ l)) w W) : Loc z (blksOf (B ++ (i, b) :: l)) w W := by
  refine h.perm ?_
  rw [blksOf_eq, blksOf_eq]
  simp only [List.map_append, List.map_cons]
  exact List.perm_middle.symm
theorem add_bs (T : Trk) (b : Blk) (dst : Option Nat) : (T.add b dst).bs = (T.nx, b) :: T.bs := by unfold Trk.add; split <;> rfl
theorem addS_bs (T : Trk) (b : Blk) (dst : Option Nat) : (T.addS b dst).bs = (T.nx, b) :: T.bs := by unfold Trk.addS; split <;> rfl
theorem trkApp_ok {E : Env} {B : Bs} {T : Trk} {l : Fr} {o : Oper} {t : Array Value} {z : Nat} {w W : World} {e : TypeId} {x : Operand} {p : Option Addr} {n c m id : Nat} {news : List Value} (ha : trkApp E B T l o.op = some (e, x, p, n, c, news, m, id)) (h : Rel l t) (hT : TagOK B T t) (hL : LocD z B T w W)
    {K : Fr → Trk → World → Prop} (hf : app2F E z B o l T w e p n c news m id K) : seqF0 E o none l W fun l' w' => keptF (numsOf (B ++ ((T.drop [id]).untag o.dst).bs)) W w' (K l' ((T.drop [id]).untag o.dst) w') := by
  obtain ⟨dst, op, ty, pos, aft, gd⟩ := o
  unfold trkApp at ha
  simp only at ha
  split at ha
  · rename_i args argTypes
    split at ha
    · rename_i x' s tt tt' hargs htys
      split at ha
      · rename_i id' htt hid
        split at ha
        · rename_i b p' n' c' q m' c2 e' hb hx hy hu
          split at ha
          · rename_i i hi
            split at ha
            · rename_i zv hz
              split at ha
              · rename_i hcond
                simp at ha
                obtain ⟨rfl, rfl, rfl, rfl, rfl, rfl, rfl, rfl⟩ := ha
                simp only [Bool.and_eq_true, beq_iff_eq] at hcond
                obtain ⟨h1, h2, h3, h4⟩ := hcond
                obtain ⟨base, xs, ho, hle, hby, hbase, hk⟩ := syncF_use hf hL
                have hm := lookB_mem hb
                have hbk := hL.l.blk b (mem_blks.2 ⟨id', hm⟩)
                obtain ⟨m2, c3, hq⟩ := (hT.s s id' (findN_mem hid)).2 b hm
                have ey : t.getD s undef = .slice q m' c2 := rd_ok (ds := []) h (fun _ _ hm => by simp at hm) hy
                rw [hq] at ey
                simp only [Value.slice.injEq] at ey
                obtain ⟨rfl, rfl, rfl⟩ := ey
                have hsz : szB E.P e' = (i.size, i.bytes) := by unfold szB; rw [hi]
                rw [hsz] at ho hby
                unfold seqF0
                simp only [hargs, htys, htt]
                unfold appendO
                rw [hx, hy]
                simp only [hu, hi, hz, h1, h2, beq_self_eq_true, Bool.true_and]
                refine ⟨base, xs, b.cs, ho, h3, ?_, hle, hby, hbase, fun p' c' w' ho' hg hr => ?_⟩
                · have := src_block hbk (fun u hu => by
                    have := List.all_eq_true.1 h4 u (by simpa using hu)
                    exact this)
                  simpa using this
                · have := hk p' c' w' (by rw [hsz]; exact ho') hg hr
                  exact this
              · cases ha
            · cases ha
          · cases ha
        · cases ha
      · cases ha
    · cases ha
  · cases ha

section
variable {E : Env} (hp : PurOK E) {ops : Array Oper} {z : Nat} {B : Bs} include hp
theorem seqF2_ok {o : Oper} {l : Fr} {T : Trk} {w W : World} {tmps : Array Value} {K : Fr → Trk → World → Prop} {N : Act → World → Prop} {Q : Exit → Act → World → Prop} (h : Rel l tmps) (hT : TagOK B T tmps) (hL : LocD z B T w W) (hf : seqF2 E z B ops o l T w K)
    (hK : ∀ l' tmps' T' w' W', Rel l' tmps' → Same o.dst.toList tmps tmps' → TagOK B T' tmps' → LocD z B T' w' W' → K l' T' w' → N { tmps := tmps', defers := [] } W') : stepG' E.P ops o { tmps, defers := [] } W N Q := by
  have hLu : ∀ {T : Trk} {w W : World}, LocD z B T w W → LocD z B (T.untag o.dst) w W := fun {T w W} hL => ⟨by unfold allB; rw [untag_bs]; exact hL.l, by unfold Trk.untag; split <;> exact hL.d, hL.b0⟩
  unfold seqF2 at hf
  cases hc : ctxOf ops o with
  | none => rw [hc] at hf; exact hf.elim
  | some ctx =>
    rw [hc] at hf
    simp only at hf
    have hwo := wanted_ok (tmps := tmps) hc
    have yes : ∀ {l' : Fr}, Rel l' tmps → Chain tmps (chain l 12 ctx).reverse → Region.wanted o (yielded ops tmps) = true := fun {l'} _ h3 => hwo.2 (by
      cases ctx with
      | none => trivial
      | some jw => exact h3 jw.1 jw.2 (by simp [chain]))
    have no : ∀ {l' : Fr}, Rel l' tmps → ¬ Chain tmps (chain l 12 ctx).reverse → K (putF l' o.dst (.v undef)) (T.untag o.dst) w → stepG' E.P ops o { tmps, defers := [] } W N Q := fun {l'} h1 h3 h2 => by
      have hW : ¬ Wants tmps ctx := fun hW => h3 fun i b hm => chain_ok h 12 ctx hW i b (by simpa using hm)
      have hw : Region.wanted o (yielded ops tmps) = false := by
        cases hw : Region.wanted o (yielded ops tmps) with
        | true => exact absurd (hwo.1 hw) hW
        | false => rfl
      unfold stepG'
      rw [if_neg (by simp [hw]), put_act]
      exact hK _ _ _ _ _ (h1.fin (ctx := none) (fun _ => rfl) (fun hn => absurd trivial hn)) (.put tmps o.dst _) (hT.put (.put _ _ _)) (hLu hL) h2
    have val : ∀ {l' : Fr} {v : Value} {T' : Trk} {w' W' : World}, Rel l' tmps → Region.wanted o (yielded ops tmps) = true → (execOp ({ tmps, defers := [] } : Act).eval o).run E.P W = .ok (.value v) W' → TagOK B T' (({ tmps, defers := [] } : Act).put o.dst v).tmps → LocD z B T' w' W' → K (putF l' o.dst (.v v)) T' w' → stepG' E.P ops o { tmps, defers := [] } W N Q := by
      intro l' v T' w' W' h1 hw hrun hT' hL' hk
      unfold stepG'
      rw [if_pos hw]
      refine .inl ?_
      unfold Oper.wp
      rw [hrun]
      show N (({ tmps, defers := [] } : Act).put o.dst v) W'
      rw [put_act]
      exact hK _ _ _ _ _ (h1.fin (ctx := none) (fun _ => rfl) (fun hn => absurd trivial hn)) (.put tmps o.dst v) hT' hL' hk
    split at hf
    · rename_i hnew
      rcases splitG_ok _ l h hf with ⟨l', h1, h2, h3⟩ | ⟨l', h1, h2, h3⟩
      · have hw := yes h1 h3
        split at h2
        · rename_i hi
          obtain ⟨T1, w1, h4, hT1, hL1⟩ := dropF_ok h2 hT hL
          unfold new2 at h4
          split at h4
          · rename_i t hop
            split at h4
            · rename_i v hv
              have hrun : (execOp ({ tmps, defers := [] } : Act).eval o).run E.P W = .ok (.value (.pointer (some ⟨W.heap.size, 0, none⟩))) (W.alloc (.cells v.cells t)) := by
                have := run_alloc2 (w := W) hv
                unfold execOp
                rw [hop]
                simp [this]
              refine val h1 hw hrun (tag_add (b := ⟨W.heap.size, t, v.cells.toList, 2⟩) h1 hi hT1) ?_ (h4 W.heap.size)
              refine ⟨?_, by unfold Trk.add; split <;> exact (fun h => by cases h), hL1.b0⟩
              unfold allB; rw [add_bs]
              exact loc_add (loc_new hL1.l t v.cells)
            · exact h4.elim
          · rename_i t x hop
            split at h4
            · rename_i v hv
              have ev := rd_ok (ds := []) h1 (fun _ _ hm => by simp at hm) hv
              have hrun : (execOp ({ tmps, defers := [] } : Act).eval o).run E.P W = .ok (.value (.pointer (some ⟨W.heap.size, 0, none⟩))) (W.alloc (.cells v.cells t)) := by
                have := run_box2 (P := E.P) (w := W) (t := t) (v := v)
                unfold execOp
                rw [hop]
                simp only [ev]
                simp [this]
              refine val h1 hw hrun (tag_add (b := ⟨W.heap.size, t, v.cells.toList, 2⟩) h1 hi hT1) ?_ (h4 W.heap.size)
              refine ⟨?_, by unfold Trk.add; split <;> exact (fun h => by cases h), hL1.b0⟩
              unfold allB; rw [add_bs]
              exact loc_add (loc_new hL1.l t v.cells)
            · exact h4.elim
          · rename_i t len parts hop
            split at h4
            · rename_i e cells ha hrow
              have hrun : (execOp ({ tmps, defers := [] } : Act).eval o).run E.P W = .ok (.value (.slice (some ⟨W.heap.size, 0, none⟩) len len)) (W.alloc (.cells cells e)) := by
                have hcg : execOp ({ tmps, defers := [] } : Act).eval o = execOp (rdV l' []) o := execOp_congr o (by simp [hop]) (fun x hx => by
                  unfold allRd at ha
                  exact rdV_ok h1 (fun _ _ hm => by simp at hm) (List.all_eq_true.1 ha x (by simpa using hx)))
                have := run_slice2 (w := W) hrow
                rw [hcg]
                unfold execOp
                rw [hop]
                simp [this]
              refine val h1 hw hrun (tag_addS (b := ⟨W.heap.size, e, cells.toList, 2⟩) h1 hi hT1) ?_ (h4 W.heap.size)
              refine ⟨?_, by unfold Trk.addS; split <;> exact (fun h => by cases h), hL1.b0⟩
              unfold allB; rw [addS_bs]
              exact loc_add (loc_new hL1.l e cells)
            · exact h4.elim
          · exact h4.elim
        · exact h2.elim
      · exact no h1 h3 h2
    · split at hf
      · rcases splitG_ok _ l h hf with ⟨l', h1, h2, h3⟩ | ⟨l', h1, h2, h3⟩
        · have hw := yes h1 h3
          split at h2
          · rename_i T' hst
            obtain ⟨W', hrun, hT', hL'⟩ := trkStore_ok hst h1 hT hL
            obtain ⟨T1, w1, h4, hT1, hL1⟩ := dropF_ok h2 hT' hL'
            unfold stepG'
            rw [if_pos hw]
            refine .inl ?_
            unfold Oper.wp
            rw [hrun]
            show N (({ tmps, defers := [] } : Act).put o.dst undef) W'
            rw [put_act]
            exact hK _ _ _ _ _ (h1.fin (ctx := none) (fun _ => rfl) (fun hn => absurd trivial hn)) (.put tmps o.dst _) (hT1.put (.put _ _ _)) (hLu hL1) h4
          · exact h2.elim
        · exact no h1 h3 h2
      · split at hf
        · rename_i hcn happ
          have hcn := isNone_eq hcn
          subst hcn
          refine seqF0_ok hp (ctx := none) hwo h (trkApp_ok happ h hT hL hf) (fun l' t' w' hr hs hk => ?_)
          obtain ⟨hsz, hkp, hk⟩ := keptF_ok hk
          refine hK l' t' _ w' w' hr hs ((hT.drop _).put hs) (hL.eff (by rw [untag_bs]; rfl) hsz hkp) hk
        · split at hf
          · obtain ⟨v, l', T', w', h1, h2, hT', hL', h3⟩ := still2_ok hp h hT hL hwo (ctx_guard hc) hf
            have next : N (({ tmps, defers := [] } : Act).put o.dst v) W := by
              rw [put_act]; exact hK l' _ T' w' W h2 (.put tmps o.dst v) hT' hL' h1
            unfold stepG'
            rcases h3 with ⟨hw, hy⟩ | ⟨hw, rfl⟩
            · rw [if_pos hw]
              refine .inl ?_
              unfold Oper.wp
              rcases hy with hy | ⟨_, f, args, hy, hcall⟩
              · rw [hy]; exact next
              · rw [hy]
                exact hcall.mono fun e w' ⟨he, hw'⟩ => by subst he; subst hw'; exact next
            · rw [if_neg (by simp [hw])]
              exact next
          · refine seqF_ok hp h (syncF_use hf hL) (fun l' t' w' hr hs hk => ?_)
            obtain ⟨hsz, hkp, hk⟩ := keptF_ok hk
            refine hK l' t' _ w' w' hr hs ((hT.drop _).put hs) (hL.eff (by rw [untag_bs]; rfl) hsz hkp) hk
theorem seqOps2_ok {K : Fr → Trk → World → Prop} {Q : Exit → Act → World → Prop} : ∀ (r : List Oper) (l : Fr) (T : Trk) (w W : World) (tmps : Array Value), Rel l tmps → TagOK B T tmps → LocD z B T w W → seqOps2 E z B ops K r l T w →
    (∀ l' tmps' T' w' W', Rel l' tmps' → Same (r.filterMap (·.dst)) tmps tmps' → TagOK B T' tmps' → LocD z B T' w' W' → K l' T' w' → Q .normal { tmps := tmps', defers := [] } W') → wpList E.P ops Q r { tmps, defers := [] } W
  | [], l, T, w, W, tmps, h, hT, hL, hf, hQ => hQ l tmps T w W h (.refl _ _) hT hL hf
  | o :: r, l, T, w, W, tmps, h, hT, hL, hf, hQ => by
    show stepG' E.P ops o { tmps, defers := [] } W (wpList E.P ops Q r) Q
    refine seqF2_ok hp h hT hL hf (fun l' tmps' T' w' W' hr hs hT' hL' hk => seqOps2_ok r l' T' w' W' tmps' hr hT' hL' hk (fun l'' t'' T'' w'' W'' hr' hs' hT2 hL2 hk' => hQ l'' t'' T'' w'' W'' hr' ?_ hT2 hL2 hk'))
    refine (hs.trans hs').mono fun i hi => ?_
    rcases List.mem_append.1 hi with hi | hi
    · cases hd : o.dst with
      | none => simp [hd] at hi
      | some d => simp [hd] at hi; simp [hd, hi]
    · cases hd : o.dst with
      | none => simpa [hd] using hi
      | some d => simp only [List.filterMap_cons, hd, List.mem_cons]; exact .inr hi
omit hp in
theorem tag_untags {T : Trk} {t t' : Array Value} {ds es : List Nat} (h : TagOK B T t) (hs : Same ds t t') (he : ∀ i ∈ ds, i ∈ es) : TagOK B (T.untags es) t' :=
  h.of (fun x hx => by obtain ⟨h1, h2⟩ := delAll_mem hx; exact ⟨h1, hs.at_ _ (fun hd => h2 (he _ hd))⟩) (fun x hx => by obtain ⟨h1, h2⟩ := delAll_mem hx; exact ⟨h1, hs.at_ _ (fun hd => h2 (he _ hd))⟩) (fun x hx => ⟨x, hx, rfl, rfl⟩) (Nat.le_refl _)
omit hp in
theorem locF_use {L : List Blk} {w : World} {X : Prop} (hf : locF z L w X) (hL : Loc z L w w) : X := by
  unfold locF at hf
  split at hf
  · exact hf
  · exact hf hL
end
section
variable {E : Env} (hp : PurOK E) {z : Nat} include hp
theorem exec2_ok (c : Code) : ∀ (B : Bs) (Q : Exit → Fr → Trk → World → Prop) (Q' : Exit → Act → World → Prop) (l : Fr) (T : Trk) (tmps : Array Value) (w W : World), Rel l tmps → TagOK B T tmps → LocD z B T w W → exec2 E z c B Q l T w →
    (∀ e l' tmps' T' w' W', Rel l' tmps' → Same (dsts c) tmps tmps' → TagOK B T' tmps' → LocD z B T' w' W' → Q e l' T' w' → Q' e { tmps := tmps', defers := [] } W') → c.wp E.P Q' { tmps, defers := [] } W := by
  have back : ∀ {B keep : Bs} {T' : Trk} {t : Array Value}, TagOK (B ++ keep) T' t → TagOK B ⟨keep ++ T'.bs, T'.tg, T'.sg, T'.nx, T'.d⟩ t := fun h => h.of (fun x hx => ⟨hx, rfl⟩) (fun x hx => ⟨hx, rfl⟩) (fun x hx => ⟨x, by simpa [List.append_assoc] using hx, rfl, rfl⟩) (Nat.le_refl _)
  have backL : ∀ {B keep : Bs} {T' : Trk} {w W : World}, LocD z (B ++ keep) T' w W → LocD z B ⟨keep ++ T'.bs, T'.tg, T'.sg, T'.nx, T'.d⟩ w W := fun h => ⟨by have := h.l; unfold allB at this ⊢; simpa [List.append_assoc] using this, h.d, fun x hx => h.b0 x (List.mem_append.2 (.inl hx))⟩
  have hso : ∀ {B : Bs} {T : Trk} {w W : World}, LocD z B T w W → LocD z B T.soil w W.drew := fun h => ⟨h.l.drew, (fun h => by cases h), h.b0⟩
  have tso : ∀ {B : Bs} {T : Trk} {t : Array Value}, TagOK B T t → TagOK B T.soil t := fun h => ⟨h.p, h.s, h.lt⟩
  induction c with
  | skip => exact fun B Q Q' l T tmps w W h hT hL hf hQ => wp_skip (hQ _ _ _ _ _ _ h (.refl _ _) hT hL hf)
  | exit id => exact fun B Q Q' l T tmps w W h hT hL hf hQ => wp_exit (hQ _ _ _ _ _ _ h (.refl _ _) hT hL hf)
  | ret => exact fun B Q Q' l T tmps w W h hT hL hf hQ => wp_ret (hQ _ _ _ _ _ _ h (.refl _ _) hT hL hf)
  | region id ops draw =>
    intro B Q Q' l T tmps w W h hT hL hf hQ
    cases draw with
    | false =>
      exact wp_region_list (seqOps2_ok hp ops.toList l T w W tmps h hT hL hf (fun l' t' T' w' W' hr hs hT' hL' hk => hQ _ _ _ _ _ _ hr hs hT' hL' hk))
    | true =>
      simp only [exec2] at hf
      split at hf
      · rename_i hm hn
        split at hf
        · rename_i hB
          exact wp_region_still hm hB (stillOps2_ok (W := W.drew) hp ops.toList l T.soil w tmps h (tso hT) (hso hL) hf (fun l' t' T' w' hr hs hT' hL' hk => hQ _ _ _ _ _ _ hr hs hT' hL' hk))
        · exact hf.elim
      · rename_i n hm hn
        split at hf
        · rename_i hB
          have hops : ops = ops.toList.toArray := by simp
          rw [hops]
          rw [hops] at hB
          refine wp_region_still_tail n hm hB ?_
          rw [← hops]
          refine stillOps2_ok (W := W.drew) hp (ops.toList.take n) l T.soil w tmps h (tso hT) (hso hL) hf (fun l' t' T' w' hr hs hT' hL' hk => ?_)
          refine seqOps2_ok hp (ops.toList.drop n) l' T' w' W.drew t' hr hT' hL' hk (fun l'' t'' T'' w'' W'' hr' hs' hT2 hL2 hk' => hQ _ _ _ _ _ _ hr' ?_ hT2 hL2 hk')
          refine (hs.trans hs').mono fun i hi => ?_
          rw [← List.filterMap_append, List.take_append_drop] at hi
          exact hi
        · have fin : ∀ {l' : Fr} {t' : Array Value} {w' : World}, Rel l' t' → Same (ops.toList.filterMap (·.dst)) tmps t' → keptF (numsOf (B ++ ((T.drop (touched (.region id ops true) T)).untags (dsts (.region id ops true))).bs)) W.drew w' (Q .normal l' ((T.drop (touched (.region id ops true) T)).untags (dsts (.region id ops true))) w') → Q' .normal { tmps := t', defers := [] } w' := fun {l' t' w'} hr hs hk => by
            obtain ⟨hsz, hkp, hk⟩ := keptF_ok hk
            exact hQ .normal l' t' _ w' w' hr hs (tag_untags (hT.drop _) hs (fun i hi => hi)) ((hso hL).eff rfl hsz hkp) hk
          split at hf
          · rename_i hsel _
            have hf := syncF_use hf (hso hL)
            have hfg : Rel (forget (boxDs E.P ops.toList) l) tmps := forget_ok h (.refl _ _)
            have hH := boxF_ok (t0 := tmps) hp hsel (Q := Q') (fun l' t' w' hr hs hk => fin hr hs hk) _ ops.size _ _ tmps hfg (.refl _ _) (by simp) (by unfold unl; exact Nat.le_trans List.countP_le_length (by simp)) hf
            refine Code.wp_mono (fun e a w hq => ?_) (wp_region_any hm (wpAny_of_N _ _ _ _ hH))
            cases e with
            | panic c => exact hq.elim
            | _ => exact hq
          · rename_i hsel _
            obtain ⟨S, hS, hf⟩ := syncF_use hf (hso hL)
            have hH := heldF_ok (t0 := tmps) hp hsel (Q := Q') (fun l' t' w' hr hs hk => fin hr hs hk) _ _ _ l tmps W.drew h (.refl _ _) (fun _ => hS) hf
            refine Code.wp_mono (fun e a w hq => ?_) (wp_region_any hm (wpAny_of_N _ _ _ _ hH))
            cases e with
            | panic c => exact hq.elim
            | _ => exact hq
          · exact hf.elim
      · exact hf.elim
  | seq a b iha ihb =>
    intro B Q Q' l T tmps w W h hT hL hf hQ
    simp only [exec2] at hf
    split at hf
    · refine wp_seq (iha B _ _ l T tmps w W h hT hL hf (fun e l' t' T' w' W' hr hs hT' hL' hk => ?_))
      cases e with
      | normal => exact ihb B Q Q' l' T' t' w' W' hr hT' hL' hk (fun e l'' t'' T'' w'' W'' hr' hs' hT2 hL2 hk' => hQ _ _ _ _ _ _ hr' (hs.trans hs') hT2 hL2 hk')
      | _ => exact hQ _ _ _ _ _ _ hr (hs.mono fun i hi => List.mem_append.2 (.inl hi)) hT' hL' hk
    · rename_i carried hcar
      obtain ⟨J, ha, hall⟩ := syncF_use hf hL
      have hperm := delKeep_perm (ds := touched a T) T.bs
      have hTk : TagOK B ⟨calm (delAll (touched a T) T.bs), T.tg, T.sg, T.nx, false⟩ tmps := hT.of (fun x hx => ⟨hx, rfl⟩) (fun x hx => ⟨hx, rfl⟩) (fun x hx => by
        rcases List.mem_append.1 hx with hx | hx
        · exact ⟨x, List.mem_append.2 (.inl hx), rfl, rfl⟩
        · obtain ⟨_, y, hy, h2⟩ := calm_mem hx
          exact ⟨y, List.mem_append.2 (.inr (delAll_mem hy).1), h2⟩) (Nat.le_refl _)
      have hT0 : TagOK (B ++ calm (delAll (touched a T) T.bs)) ⟨calm (keepAll (touched a T) T.bs), T.tg, T.sg, T.nx, false⟩ tmps := hT.of (fun x hx => ⟨hx, rfl⟩) (fun x hx => ⟨hx, rfl⟩) (fun x hx => by
        rw [List.append_assoc] at hx
        rcases List.mem_append.1 hx with hx | hx
        · exact ⟨x, List.mem_append.2 (.inl hx), rfl, rfl⟩
        · rcases List.mem_append.1 hx with hx | hx
          · obtain ⟨_, y, hy, h2⟩ := calm_mem hx
            exact ⟨y, List.mem_append.2 (.inr (hperm.mem_iff.1 (List.mem_append.2 (.inl hy)))), h2⟩
          · obtain ⟨_, y, hy, h2⟩ := calm_mem hx
            exact ⟨y, List.mem_append.2 (.inr (hperm.mem_iff.1 (List.mem_append.2 (.inr hy)))), h2⟩) (Nat.le_refl _)
      have hL0 : LocD z (B ++ calm (delAll (touched a T) T.bs)) ⟨calm (keepAll (touched a T) T.bs), T.tg, T.sg, T.nx, false⟩ W W := by
        have hp : (blksOf (B ++ T.bs)).Perm (blksOf (B ++ (delAll (touched a T) T.bs ++ keepAll (touched a T) T.bs))) := by
          rw [blksOf_eq, blksOf_eq]
          exact List.Perm.map _ ((List.Perm.refl B).append hperm.symm)
        have hb0 : ∀ x ∈ B ++ calm (delAll (touched a T) T.bs), x.2.m = 0 := fun x hx => by
          rcases List.mem_append.1 hx with hx | hx
          · exact hL.b0 x hx
          · exact (calm_mem hx).1
        refine ⟨loc_zero (hL.l.perm hp) (.refl _) ?_ ?_, fun _ => rfl, hb0⟩
        · unfold allB; simp only [blks_app, List.map_append, calm_key, List.append_assoc]
        · intro x hx
          obtain ⟨i, hi⟩ := mem_blks.1 hx
          rcases List.mem_append.1 hi with hi | hi
          · exact hb0 _ hi
          · exact (calm_mem hi).1
      refine wp_seq (iha _ _ _ l _ tmps W W h hT0 hL0 ha (fun e l' t' T' w' W' hr hs hT' hL' hk => ?_))
      cases e with
      | normal =>
        simp only at hk
        have hk := syncF_use hk hL'
        split at hk
        · rename_i vs hvs
          obtain ⟨h1, h2⟩ := readAll_ok hr carried vs hvs
          subst h1
          have hsub : Loc z (blksOf (B ++ calm (delAll (touched a T) T.bs))) W' W' := loc_zero hL'.l (blks_sub (List.sublist_append_left _ _)) rfl (fun x hx => by obtain ⟨i, hi⟩ := mem_blks.1 hx; exact hL'.b0 _ hi)
          have hb := locF_use (allT_at _ _ hall _ h2 W' hk) hsub
          refine ihb B Q Q' _ _ t' W' W' (setAll_ok carried _ (forget_ok h hs)) ?_ ?_ hb (fun e l'' t'' T'' w'' W'' hr' hs' hT2 hL2 hk' => hQ _ _ _ _ _ _ hr' (hs.trans hs') hT2 hL2 hk')
          · exact tag_untags hTk hs (fun i hi => List.mem_append.2 (.inl hi))
          · exact ⟨hsub, fun _ => rfl, hL.b0⟩
        · exact hk.elim
      | _ => exact hQ _ _ _ _ _ _ hr (hs.mono fun i hi => List.mem_append.2 (.inl hi)) (back hT') (backL hL') hk
  | cond c a b iha ihb =>
    intro B Q Q' l T tmps w W h hT hL hf hQ
    simp only [exec2] at hf
    split at hf
    · rename_i t ht
      have ev := rd_ok (ds := []) h (fun _ _ hm => by simp at hm) ht
      cases t with
      | true => exact wp_cond_true ev (iha B Q Q' l T tmps w W h hT hL hf (fun e l' t' T' w' W' hr hs hT' hL' hk => hQ _ _ _ _ _ _ hr (hs.mono fun i hi => List.mem_append.2 (.inl hi)) hT' hL' hk))
      | false => exact wp_cond_false ev (ihb B Q Q' l T tmps w W h hT hL hf (fun e l' t' T' w' W' hr hs hT' hL' hk => hQ _ _ _ _ _ _ hr (hs.mono fun i hi => List.mem_append.2 (.inr hi)) hT' hL' hk))
    · exact hf.elim
  | block id c ih =>
    intro B Q Q' l T tmps w W h hT hL hf hQ
    refine wp_block (ih B _ _ l T tmps w W h hT hL hf (fun e l' t' T' w' W' hr hs hT' hL' hk => ?_))
    cases e with
    | exit i =>
      simp only at hk
      simp only [Exit.inBlock]
      split at hk
      · rename_i hi
        rw [if_pos (by simpa using hi)]
        exact hQ _ _ _ _ _ _ hr hs hT' hL' hk
      · rename_i hi
        rw [if_neg (by simpa using hi)]
        exact hQ _ _ _ _ _ _ hr hs hT' hL' hk
    | _ => exact hQ _ _ _ _ _ _ hr hs hT' hL' hk
  | scope c ih =>
    intro B Q Q' l T tmps w W h hT hL hf hQ
    refine wp_scope_straight (ih B _ _ l T tmps w W h hT hL hf (fun e l' t' T' w' W' hr hs hT' hL' hk => ?_))
    cases e with
    | goto i => exact hk.elim
    | _ => exact hQ _ _ _ _ _ _ hr hs hT' hL' hk
  | label i => exact fun B Q Q' l T tmps w W h hT hL hf hQ => wp_label (hQ _ _ _ _ _ _ h (.refl _ _) hT hL hf)
  | loop c ih =>
    intro B Q Q' l T tmps w W h hT hL hf hQ
    simp only [exec2] at hf
    split at hf
    · exact hf.elim
    · rename_i carried hcar
      obtain ⟨I, m, h0, hall⟩ := syncF_use hf hL
      have hb0 : ∀ x ∈ B ++ calm (delAll (touched c T) T.bs), x.2.m = 0 := fun x hx => by
        rcases List.mem_append.1 hx with hx | hx
        · exact hL.b0 x hx
        · exact (calm_mem hx).1
      have hsub0 : Loc z (blksOf (B ++ calm (delAll (touched c T) T.bs))) W W := (hL.anew (T' := ⟨calm (delAll (touched c T) T.bs), T.tg, T.sg, T.nx, false⟩) rfl).l
      refine wp_loop (fun a w' => ∃ t', a = { tmps := t', defers := [] } ∧ okL (carried.map (·.2)) (vsOf t' carried) = true ∧ Same (dsts c) tmps t' ∧ I (vsOf t' carried) w' ∧ Loc z (blksOf (B ++ calm (delAll (touched c T) T.bs))) w' w') (fun a w' => m (vsOf a.tmps carried) w') ?_ ?_
      · split at h0
        · rename_i vs hvs
          obtain ⟨h1, h2⟩ := readAll_ok h carried vs hvs
          subst h1
          exact ⟨tmps, rfl, h2, .refl _ _, h0, hsub0⟩
        · exact h0.elim
      · rintro a w' ⟨t', rfl, hok, hsame, hI, hLw⟩
        have hb := locF_use (allT_at _ _ hall _ hok w' hI) hLw
        refine ih _ _ _ _ _ t' w' w' (setAll_ok carried _ (forget_ok h hsame)) ?_ ?_ hb (fun e l' t'' T'' w'' W'' hr hs hT2 hL2 hk => ?_)
        · refine tag_untags (B := B ++ calm (delAll (touched c T) T.bs)) (T := ⟨[], T.tg, T.sg, T.nx, false⟩) (hT.of (fun x hx => ⟨hx, rfl⟩) (fun x hx => ⟨hx, rfl⟩) (fun x hx => ?_) (Nat.le_refl _)) hsame (fun i hi => List.mem_append.2 (.inl hi))
          rw [List.append_nil] at hx
          rcases List.mem_append.1 hx with hx | hx
          · exact ⟨x, List.mem_append.2 (.inl hx), rfl, rfl⟩
          · obtain ⟨_, y, hy, h2⟩ := calm_mem hx
            exact ⟨y, List.mem_append.2 (.inr (delAll_mem hy).1), h2⟩
        · refine ⟨?_, fun _ => rfl, hb0⟩
          show Loc z (blksOf (B ++ calm (delAll (touched c T) T.bs) ++ [])) w' w'
          rw [List.append_nil]; exact hLw
        cases e with
        | normal =>
          simp only at hk
          have hk := syncF_use hk hL2
          split at hk
          · rename_i vs' hvs
            obtain ⟨h1, h2⟩ := readAll_ok hr carried vs' hvs
            subst h1
            exact ⟨⟨t'', rfl, h2, (hsame.trans hs).mono (fun i hi => by simpa using hi), hk.1, loc_zero hL2.l (blks_sub (List.sublist_append_left _ _)) rfl (fun x hx => by obtain ⟨i, hi⟩ := mem_blks.1 hx; exact hb0 _ hi)⟩, hk.2⟩
          · exact hk.elim
        | _ => exact hQ _ _ _ _ _ _ hr ((hsame.trans hs).mono (fun i hi => by simpa [dsts] using hi)) (back hT2) (backL hL2) hk
  | _ => exact fun B Q Q' l T tmps w W h hT hL hf hQ => hf.elim
set_option maxRecDepth 512 in omit hp in
theorem resF2_ok {l : Fr} {T : Trk} {w W : World} {tmps : Array Value} (h : Rel l tmps) (hT : TagOK [] T tmps) (hL : LocD z [] T w W) : ∀ (rs : List ResultVar) (F : List Value → Prop), resF2 E z T l w rs F →
    ∃ vs, F vs ∧ (rs.mapM (resV tmps) : Sem (List Value)).run E.P W = .ok vs W
  | [], F, hf => ⟨[], hf, by simp⟩
  | .tmp t :: r, F, hf => by
    simp only [resF2] at hf
    split at hf
    · rename_i v hv
      have ev := rd_ok (ds := []) h (fun _ _ hm => by simp at hm) hv
      obtain ⟨vs, h1, h2⟩ := resF2_ok h hT hL r _ hf
      refine ⟨_, h1, ?_⟩
      have ev' : tmps.getD t undef = v := ev
      rw [List.mapM_cons, Sem.run_bind]
      show ((Result.ok (tmps.getD t undef) W).andThen _) = _
      rw [Result.andThen_ok, Sem.run_bind, h2, ev']
      rfl
    · exact hf.elim
  | .cell a t :: r, F, hf => by
    have fin : ∀ {b o : Nat} {agg : Bool} {n : Nat} {cs : List Value}, tmps.getD a undef = .pointer (some ⟨b, o, none⟩) → ldK E.P t = some (agg, n) → (cs.length == n) = true → At W b o cs → (resF2 E z T l w r fun vs => F (toV agg cs :: vs)) → ∃ vs, F vs ∧ ((.cell a t :: r).mapM (resV tmps) : Sem (List Value)).run E.P W = .ok vs W := by
      intro b o agg n cs ev' hk hlen hat hf
      have hl := run_loadVar' hk hlen hat
      obtain ⟨vs, h4, h5⟩ := resF2_ok h hT hL r _ hf
      refine ⟨_, h4, ?_⟩
      have hv' : (resV tmps (.cell a t)).run E.P W = .ok (toV agg cs) W := by
        simp only [resV, ev', asAddr]
        rw [Sem.run_bind]
        exact hl
      rw [List.mapM_cons, Sem.run_bind, hv', Result.andThen_ok, Sem.run_bind, h5]
      rfl
    simp only [resF2] at hf
    split at hf
    · rename_i v hl
      obtain ⟨b, off, agg, n, cs, h1, h2, h3, h4, rfl⟩ := trkLoad_ok hl hT hL.l
      exact fin h1 h2 h3 h4 hf
    · exact hf.elim
    · split at hf
      · rename_i p hv
        have ev := rd_ok (ds := []) h (fun _ _ hm => by simp at hm) hv
        unfold loadF at hf
        obtain ⟨b, o, h1, h2⟩ := nn_ex hf
        have h2 := h2 rfl
        subst h2
        split at h1
        · rename_i agg n ck hk hs
          obtain ⟨cs, h3⟩ := exT_ex _ _ h1
          split at h3
          · rename_i hlen
            exact fin ev hk hlen (AtF_at (syncF_use (gimp_true h3.1 rfl) hL)) h3.2
          · exact h3.elim
        · exact h1.elim
      · exact hf.elim
/-- FROM THE FORMULA TO THE CONTRACT. -/
theorem calls_of_exec2 {f : FuncId} {fn : Func} {c : Code} {args : List Value} {w : World} {R : Ending → World → Prop} (hf : E.P.funcs[f]? = some fn) (hb : fn.body = some c)
    (h : execR2 E fn.results.toList R c (initF args (fn.ntmps - args.length)) w) : Calls E.P f args.toArray w R := by
  refine calls_of_wp hf hb ?_
  have hi := initF_ok args (fn.ntmps - args.length)
  have hT0 : ∀ t : Array Value, TagOK [] ⟨[], [], [], 0, false⟩ t := fun t => ⟨(fun _ _ _ h => by cases h), (fun _ _ h => by cases h), (fun _ h => by cases h)⟩
  have hL0 : LocD w.heap.size [] ⟨[], [], [], 0, false⟩ w w := ⟨⟨.refl _ _, (fun _ h => by cases h), (fun _ h => by cases h), .nil, (fun _ h => by cases h), Nat.le_refl _⟩, fun _ => rfl, (fun _ h => by cases h)⟩
  have res : ∀ {t' : Array Value} {w' : World} {vs : List Value}, (fn.results.toList.mapM (resV t') : Sem (List Value)).run E.P w' = .ok vs w' → (results fn t').run E.P w' = .ok (retV vs) w' := fun {t' w' vs} h2 => by
    show (do let vs ← fn.results.mapM (resV t'); pure (if h : vs.size = 1 then vs[0] else .tuple vs) : Sem Value).run E.P w' = _
    rw [Sem.run_bind, Array.mapM_eq_mapM_toList, Sem.run_map, h2]
    show Result.ok (if h : vs.toArray.size = 1 then vs.toArray[0] else .tuple vs.toArray) w' = _
    match vs with
    | [] => rfl
    | [v] => rfl
    | a :: b :: r => simp [retV]
  unfold execR2 at h
  split at h
  · refine exec2_ok hp c [] _ _ _ _ _ w w (by simpa using hi) (hT0 _) hL0 h (fun e l' t' T' w' W' hr _ hT' hL' hq => ?_)
    have key : (resF2 E w.heap.size T' l' w' fn.results.toList fun vs => syncF w.heap.size [] T' w' fun W => R (.returned (retV vs)) W) → ∃ v, (results fn t').run E.P W' = .ok v W' ∧ R (.returned v) W' := fun hq => by
      obtain ⟨vs, h1, h2⟩ := resF2_ok hr hT' hL' _ _ hq
      exact ⟨retV vs, res h2, syncF_use h1 hL'⟩
    cases e with
    | normal => exact ⟨rfl, key hq⟩
    | ret => exact ⟨rfl, key hq⟩
    | _ => exact hq.elim
  · rename_i carried hcar
    obtain ⟨J, hex, hall⟩ := h
    have fin : ∀ (l' : Fr) (t' : Array Value) (w' : World), Rel l' t' → t'.size = (initF args (fn.ntmps - args.length)).length → (match readAll l' carried with | some vs => J vs w' | none => False) → ∃ v, (results fn t').run E.P w' = .ok v w' ∧ R (.returned v) w' := by
      intro l' t' w' hr hsz hq
      split at hq
      · rename_i vs hvs
        obtain ⟨h1, h2⟩ := readAll_ok hr carried vs hvs
        subst h1
        have hb := allT_at _ _ hall _ h2 w' hq
        obtain ⟨vs, h1, h2⟩ := resF_ok (tmps := t') (setAll_ok carried _ ⟨by simp [hsz], fun t s ht => by
          rw [List.getElem?_map] at ht
          cases hx : (initF args (fn.ntmps - args.length))[t]? with
          | none => simp [hx] at ht
          | some y => simp [hx] at ht; subst ht; trivial⟩) _ _ hb
        exact ⟨retV vs, res h2, h1⟩
      · exact hq.elim
    refine exec2_ok hp c [] _ _ _ _ _ w w (by simpa using hi) (hT0 _) hL0 hex (fun e l' t' T' w' W' hr hs hT' hL' hq => ?_)
    have hsz : t'.size = (initF args (fn.ntmps - args.length)).length := by
      rw [hs.size]
      simpa using hi.size
    cases e with
    | normal => exact ⟨rfl, fin l' t' W' hr hsz (syncF_use hq hL')⟩
    | ret => exact ⟨rfl, fin l' t' W' hr hsz (syncF_use hq hL')⟩
    | _ => exact hq.elim
end
theorem calls_of_exec2' {P : Program} {loops : List (Nat × List (Nat × Ck))} {pur : FuncId → List Value → Option (Option Prop × Value)} {tails : List (Nat × Nat)} {joins : List (Nat × List (Nat × Ck))} {boxes : List (Nat × Unit)} {rngs : List (Nat × TypeId)} {f : FuncId} {fn : Func} {c : Code} {args : List Value} {w : World} {R : Ending → World → Prop} {V : Prop}
    (hp : PurOK { P, loops, pur, tails, joins, boxes, rngs }) (hf : P.funcs[f]? = some fn) (hb : fn.body = some c)
    (e : execR2 { P, loops, pur, tails, joins, boxes, rngs } fn.results.toList R c (initF args (fn.ntmps - args.length)) w = V) (h : V) : Calls P f args.toArray w R :=
  calls_of_exec2 (E := { P, loops, pur, tails, joins, boxes, rngs }) hp hf hb (e.mpr h)

end Go.Proofs.YtgmmoghagpmpfaaGreatDoor
