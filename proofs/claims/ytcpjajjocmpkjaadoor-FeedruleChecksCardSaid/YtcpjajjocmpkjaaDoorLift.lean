/- What was read before a call reads behind it as it did, where the blocks that were there are as they were; the last step of a law. Generic: no program, no condition. -/
import Derived.Test.YtcpjajjocmpkjaaDoorWorld
import Derived.Below
import Derived.ChangeSame
import Derived.DataReads
namespace Go.Proofs.YtcpjajjocmpkjaaDoor
open Go.RowKit Go.WideShapes Go.ChangeShapes

theorem mapM_to {α β : Type} {f g : α → Option β} : ∀ (l : List α) (ys : List β), l.mapM f = some ys → (∀ x ∈ l, ∀ y ∈ ys, f x = some y → g x = some y) → l.mapM g = some ys
  | [], ys, h, _ => by simpa using h
  | a :: r, ys, h, hg => by
    rw [List.mapM_cons] at h ⊢
    cases hf : f a with
    | none => simp [hf] at h
    | some y =>
      cases hr : r.mapM f with
      | none => simp [hf, hr] at h
      | some zs =>
        simp [hf, hr] at h
        subst h
        have h1 := hg a (by simp) y (by simp) hf
        have h2 := mapM_to r zs hr (fun x hx z hz => hg x (by simp [hx]) z (by simp [hz]))
        simp [h1, h2]
theorem cell_kept {w w' : World} (hk : K0 w w') {a : Addr} {v : Value} (h : w.cell? a = some v) : w'.cell? a = some v := by
  have hb : a.block < w.heap.size := World.block_lt_of_cell? w a h
  have := hk.block a.block hb (fun h => h)
  rw [← h]
  unfold World.cell?
  rw [this]
theorem cells_kept {w w' : World} (hk : K0 w w') {base n : Nat} {a : Addr} {cs : List Value} (h : w.cells? base a n = some cs) : w'.cells? base a n = some cs := by
  unfold World.cells? at h ⊢
  split at h
  · rename_i hb
    rw [if_pos hb]
    exact mapM_to _ _ h (fun x _ y _ hx => cell_kept hk hx)
  · cases h
/-- A type of bounded depth in which the elements of slices have cells. -/
def posT (P : Program) : Nat → TypeId → Bool
  | 0, t => (match P.underlying t with
    | some (.pointer _) => false
    | some (.slice _) => false
    | some (.struct _) => false
    | some (.array _ _) => false
    | some (.map _ _) => false
    | _ => true)
  | d + 1, t => (match P.underlying t with
    | some (.pointer e) => posT P d e
    | some (.slice e) => Nat.blt 0 (P.cellsOf e) && posT P d e
    | some (.struct fs) => fs.toList.all fun f => posT P d f.type
    | some (.array _ e) => posT P d e
    | some (.map _ e) => posT P d e
    | _ => true)
theorem posT_pointer {P : Program} {d : Nat} {t e : TypeId} (h : posT P d t = true) (hu : P.underlying t = some (.pointer e)) : ∃ d', posT P d' e = true := by
  cases d with
  | zero => simp [posT, hu] at h
  | succ d => simp only [posT, hu] at h; exact ⟨d, h⟩
theorem posT_slice {P : Program} {d : Nat} {t e : TypeId} (h : posT P d t = true) (hu : P.underlying t = some (.slice e)) : 0 < P.cellsOf e ∧ ∃ d', posT P d' e = true := by
  cases d with
  | zero => simp [posT, hu] at h
  | succ d => simp only [posT, hu, Bool.and_eq_true] at h; exact ⟨by simpa using h.1, d, h.2⟩
theorem posT_struct {P : Program} {d : Nat} {t : TypeId} {fs : Array Field} (h : posT P d t = true) (hu : P.underlying t = some (.struct fs)) : ∃ d', ∀ f ∈ fs.toList, posT P d' f.type = true := by
  cases d with
  | zero => simp [posT, hu] at h
  | succ d => simp only [posT, hu] at h; exact ⟨d, fun f hf => List.all_eq_true.1 h f hf⟩
theorem posT_array {P : Program} {d n : Nat} {t e : TypeId} (h : posT P d t = true) (hu : P.underlying t = some (.array n e)) : ∃ d', posT P d' e = true := by
  cases d with
  | zero => simp [posT, hu] at h
  | succ d => simp only [posT, hu] at h; exact ⟨d, h⟩
theorem posT_map {P : Program} {d : Nat} {t k e : TypeId} (h : posT P d t = true) (hu : P.underlying t = some (.map k e)) : ∃ d', posT P d' e = true := by
  cases d with
  | zero => simp [posT, hu] at h
  | succ d => simp only [posT, hu] at h; exact ⟨d, h⟩
theorem trod_kept {H : Type} {enc : TypeId × Value → H} {P : Program} {w w' : World} (hk : K0 w w') {base : Nat} {sp : Nat → Bool} : ∀ (fuel : Nat) (t : TypeId) (d : Nat) (cs : List Value) (x : DataW H × List MemPlace), posT P d t = true →
    DataW.trod enc P w base (fun _ => true) true fuel t cs = some x → (∀ p ∈ x.2, sp p.block = true) → DataW.trod enc P w' base sp true fuel t cs = some x
  | 0, t, d, cs, x, _, h, _ => by simp [DataW.trod] at h
  | fuel + 1, t, d, cs, x, hd, h, hsp => by
    have ih := trod_kept (enc := enc) (P := P) hk (base := base) (sp := sp) fuel
    unfold DataW.trod at h ⊢
    split at h
    case h_6 e a hu =>
      cases hc : w.cells? base a (P.cellsOf e) with
      | none => rw [hc] at h; simp at h
      | some cs' =>
        rw [hc] at h
        simp only [Option.bind_some, Option.map_eq_some_iff] at h
        obtain ⟨y, hy, rfl⟩ := h
        rw [cells_kept hk hc]
        simp only [Option.bind_some]
        obtain ⟨d', hd'⟩ := posT_pointer hd hu
        rw [ih e d' cs' y hd' hy (fun p hp => hsp p (by simp [hp]))]
        rfl
    case h_8 e a len cap hu =>
      obtain ⟨hpos, d', hd'⟩ := posT_slice hd hu
      dsimp only at h ⊢
      split at h
      · rename_i hcond
        rw [if_pos hcond]
        cases he : (List.range len).mapM (fun i => (w.cells? base (a.add (i * P.cellsOf e)) (P.cellsOf e)).bind (DataW.trod enc P w base (fun _ => true) true fuel e)) with
        | none => rw [he] at h; simp at h
        | some elems =>
          rw [he] at h
          simp only [Option.bind_some, if_true, Option.map_eq_some_iff] at h
          obtain ⟨rest, hr, rfl⟩ := h
          have el : ∀ i y, y ∈ elems ++ rest → (w.cells? base (a.add (i * P.cellsOf e)) (P.cellsOf e)).bind (DataW.trod enc P w base (fun _ => true) true fuel e) = some y → (w'.cells? base (a.add (i * P.cellsOf e)) (P.cellsOf e)).bind (DataW.trod enc P w' base sp true fuel e) = some y := fun i y hy h => by
            cases hc : w.cells? base (a.add (i * P.cellsOf e)) (P.cellsOf e) with
            | none => rw [hc] at h; simp at h
            | some cs' =>
              rw [hc] at h
              simp only [Option.bind_some] at h
              rw [cells_kept hk hc]
              simp only [Option.bind_some]
              refine ih e d' cs' y hd' h (fun p hp => hsp p ?_)
              simp only [List.mem_append]
              right
              exact List.mem_flatMap.2 ⟨y, hy, hp⟩
          have hel := mapM_to (g := fun i => (w'.cells? base (a.add (i * P.cellsOf e)) (P.cellsOf e)).bind (DataW.trod enc P w' base sp true fuel e)) _ _ he (fun i _ y hy h => el i y (by simp [hy]) h)
          rw [hel]
          simp only [Option.bind_some, Option.map_eq_some_iff]
          have hlr : rest.length = cap - len := by simpa using mapM_some_length hr
          refine ⟨rest, ?_, rfl⟩
          split
          · exact mapM_to _ _ hr (fun j _ y hy h => el (len + j) y (by simp [hy]) h)
          · rename_i hns
            have : cap - len = 0 := by
              rcases Nat.eq_zero_or_pos (cap - len) with h0 | h0
              · exact h0
              · exfalso
                apply hns
                have hp := hpos
                refine hsp (.cell a.block (a.off + 0)) ?_
                simp only [List.mem_append]
                left
                unfold MemPlace.row
                refine List.mem_map.2 ⟨0, List.mem_range.2 ?_, rfl⟩
                rw [hlr]
                exact Nat.mul_pos (by omega) hp
            have : rest = [] := List.eq_nil_of_length_eq_zero (by omega)
            rw [this]
      · cases h
    case h_9 =>
      obtain ⟨d', hd'⟩ := posT_struct hd (by assumption)
      split at h
      · rename_i hl
        rw [if_pos hl]
        simp only [Option.map_eq_some_iff] at h ⊢
        obtain ⟨xs, hxs, rfl⟩ := h
        exact ⟨xs, mapM_to _ _ hxs (fun f hfm y hy hf => ih _ d' _ y (hd' f hfm) hf (fun p hp => hsp p (List.mem_flatMap.2 ⟨y, hy, hp⟩))), rfl⟩
      · cases h
    case h_10 =>
      obtain ⟨d', hd'⟩ := posT_array hd (by assumption)
      split at h
      · rename_i hl
        rw [if_pos hl]
        simp only [Option.map_eq_some_iff] at h ⊢
        obtain ⟨xs, hxs, rfl⟩ := h
        exact ⟨xs, mapM_to _ _ hxs (fun f _ y hy hf => ih _ d' _ y hd' hf (fun p hp => hsp p (List.mem_flatMap.2 ⟨y, hy, hp⟩))), rfl⟩
      · cases h
    case h_12 => exact h
    case h_14 =>
      rename_i k e b hu
      obtain ⟨d', hd'⟩ := posT_map hd hu
      split at h
      · rename_i es clock hes
        rw [hk.blk hes (fun h => h)]
        dsimp only
        split at h
        · rename_i hcond
          rw [if_pos hcond]
          cases hm : es.toList.mapM (fun x => (keyOf P k x.key).bind fun key => if x.val.formed P e then (DataW.trod enc P w base (fun _ => true) true fuel e x.val.cells.toList).map fun y => ((key, y.1), y.2) else none) with
          | none => rw [hm] at h; simp at h
          | some entries =>
            rw [hm] at h
            simp only [Option.bind_some] at h
            split at h
            · rename_i hrs
              simp only [Option.some.injEq] at h
              subst h
              have := mapM_to (g := fun x => (keyOf P k x.key).bind fun key => if x.val.formed P e then (DataW.trod enc P w' base sp true fuel e x.val.cells.toList).map fun y => ((key, y.1), y.2) else none) _ _ hm (fun z _ y hy hf => by
                cases hkz : keyOf P k z.key with
                | none => rw [hkz] at hf; simp at hf
                | some key =>
                  rw [hkz] at hf
                  simp only [Option.bind_some] at hf ⊢
                  split at hf
                  · rename_i hfm
                    rw [if_pos hfm]
                    simp only [Option.map_eq_some_iff] at hf ⊢
                    obtain ⟨y', hy', rfl⟩ := hf
                    exact ⟨y', ih _ d' _ y' hd' hy' (fun p hp => hsp p (List.mem_cons_of_mem _ (List.mem_flatMap.2 ⟨_, hy, hp⟩))), rfl⟩
                  · cases hf)
              rw [this]
              simp only [Option.bind_some]
              rw [if_pos hrs]
            · cases h
        · cases h
      · cases h
    all_goals exact h

theorem addr_add2 (b o i j : Nat) : ((⟨b, o, none⟩ : Addr).add i).add j = ⟨b, o + i + j, none⟩ := by
  unfold Addr.add
  by_cases hi : i = 0 <;> by_cases hj : j = 0 <;> simp [hi, hj]

end Go.Proofs.YtcpjajjocmpkjaaDoor
