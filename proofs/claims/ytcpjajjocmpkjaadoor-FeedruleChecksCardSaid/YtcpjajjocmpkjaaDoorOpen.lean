/- What an argument that was read gives: its cells, strings of slices, bytes of arrays. Generic but for the types' numbers. No condition. -/
import Derived.Test.YtcpjajjocmpkjaaDoorWrap
import Derived.Test.YtcpjajjocmpkjaaDoorSel
namespace Go.Proofs.YtcpjajjocmpkjaaDoor
open Go.ChangeShapes Go.WideShapes Go.ChangeAt Go.RowKit Go.Deep

/-- Cells that were read as a value of a type. -/
def Rd {H : Type} (enc : TypeId × Value → H) (P : Program) (W : World) (t : TypeId) (cs : List Value) : Prop := ∃ (fuel : Nat) (x : DataW H × List MemPlace), DataW.trod enc P W 0 (fun _ => true) true fuel t cs = some x
section
variable {H : Type} {enc : TypeId × Value → H} {P : Program} {W : World} {t : TypeId} {cs : List Value}
theorem Rd.of {v : Value} {d : DataW H} {ps : List MemPlace} (h : DataW.Trod enc P W 0 (fun _ => true) true t v d ps) : Rd enc P W t v.cells.toList := by
  obtain ⟨fuel, h⟩ := h; exact ⟨fuel, _, h⟩
theorem Rd.field {fs : Array Field} (h : Rd enc P W t cs) (ht : P.underlying t = some (.struct fs)) {i : Nat} {f : Field} (hf : fs[i]? = some f) : Rd enc P W f.type ((cs.drop f.offset).take (P.cellsOf f.type)) := by
  obtain ⟨fuel, x, h⟩ := h
  obtain ⟨xs, n, _, _, _, hl, hg⟩ := DataW.trod_struct ht h
  have hi : i < xs.length := by rw [hl]; exact (Array.getElem?_eq_some_iff.1 hf).1
  exact ⟨n, xs[i], by rw [hg i f hf, List.getElem?_eq_getElem hi]⟩
theorem Rd.int {k : IntKind} (h : Rd enc P W t cs) (ht : P.underlying t = some (.int k)) : ∃ n, cs = [.int k n] ∧ (Lit.int k n).wf = true := by
  obtain ⟨fuel, x, h⟩ := h
  obtain ⟨n, h1, _, h2⟩ := DataW.trod_int ht h
  exact ⟨n, h1, h2⟩
theorem Rd.bool (h : Rd enc P W t cs) (ht : P.underlying t = some .bool) : ∃ b, cs = [.bool b] := by
  obtain ⟨fuel, x, h⟩ := h
  obtain ⟨b, h1, _⟩ := DataW.trod_bool ht h
  exact ⟨b, h1⟩
theorem Rd.str (h : Rd enc P W t cs) (ht : P.underlying t = some .string) : ∃ s : ByteArray, cs = [.string s] ∧ s.size ≤ 9223372036854775807 := by
  obtain ⟨fuel, x, h⟩ := h
  obtain ⟨s, h1, _, h2⟩ := DataW.trod_string ht h
  exact ⟨s, h1, h2⟩
/-- A slice that was read: its elements. -/
theorem Rd.slice {e : TypeId} (h : Rd enc P W t cs) (ht : P.underlying t = some (.slice e)) (hp : 0 < P.cellsOf e) : ∃ (p : Option Addr) (n c : Nat), cs = [.slice p n c] ∧ n ≤ c ∧ n ≤ 9223372036854775807 ∧
    ∀ i, i < n → ∃ (b o : Nat) (cs' : List Value), p = some ⟨b, o, none⟩ ∧ cs'.length = P.cellsOf e ∧ (∀ j v, cs'[j]? = some v → W.cell? ⟨b, o + i * P.cellsOf e + j, none⟩ = some v) ∧ Rd enc P W e cs' := by
  obtain ⟨fuel, x, h⟩ := h
  rcases open_slice ht h with ⟨h0, _⟩ | ⟨a, len, cap, m, nn, D, Pl, hcs, hb, hl, hm, hmm, hx, hi⟩
  · exact ⟨none, 0, 0, h0, by omega, by omega, fun i hi => by omega⟩
  · refine ⟨some a, len, cap, hcs, hl, by unfold maxLen at hm; omega, fun i hilt => ?_⟩
    have hmc : m = cap := by rw [hmm]; rfl
    obtain ⟨cs', hc, ht'⟩ := hi i (by omega)
    obtain ⟨_, hlen, hat⟩ := World.cells?_some hc
    have hspot : a.spot = none := by
      obtain ⟨cs0, hc0, _⟩ := hi 0 (by omega)
      obtain ⟨_, hl0, ha0⟩ := World.cells?_some hc0
      have h00 := ha0 0 hp
      rw [List.getElem?_eq_getElem (by omega)] at h00
      have := World.cell?_spot h00
      simpa [Addr.add] using this
    obtain ⟨b, o, sp⟩ := a
    simp only at hspot
    subst hspot
    refine ⟨b, o, cs', rfl, hlen, fun j v hj => ?_, nn, _, ht'⟩
    have hjl : j < P.cellsOf e := by have := (List.getElem?_eq_some_iff.1 hj).1; omega
    have := hat j hjl
    rw [addr_add2, hj] at this
    exact this
/-- A slice of strings that was read. -/
theorem Rd.strs {e : TypeId} (h : Rd enc P W t cs) (ht : P.underlying t = some (.slice e)) (he : P.underlying e = some .string) (h1 : P.cellsOf e = 1) : ∃ (p : Option Addr) (zs : List ByteArray) (c : Nat), cs = [.slice p zs.length c] ∧ zs.length ≤ c ∧ StrP W p zs ∧ ∀ z ∈ zs, z.size ≤ 9223372036854775807 := by
  obtain ⟨p, n, c, hcs, hnc, _, hel⟩ := h.slice ht (by omega)
  have key : ∀ i, i < n → ∃ z : ByteArray, z.size ≤ 9223372036854775807 ∧ ∃ b o, p = some ⟨b, o, none⟩ ∧ W.cell? ⟨b, o + i, none⟩ = some (.string z) := fun i hi => by
    obtain ⟨b, o, cs', hp, hl, hc, hr⟩ := hel i hi
    obtain ⟨z, rfl, hz⟩ := hr.str he
    have := hc 0 _ rfl
    rw [h1] at this
    exact ⟨z, hz, b, o, hp, by simpa using this⟩
  have hex : ∃ g : Nat → ByteArray, ∀ i, i < n → (g i).size ≤ 9223372036854775807 ∧ ∃ b o, p = some ⟨b, o, none⟩ ∧ W.cell? ⟨b, o + i, none⟩ = some (.string (g i)) := by
    refine ⟨fun i => if h : i < n then Classical.choose (key i h) else ByteArray.empty, fun i hi => ?_⟩
    simp only [hi, dif_pos]
    exact Classical.choose_spec (key i hi)
  obtain ⟨g, hg⟩ := hex
  refine ⟨p, (List.range n).map g, c, by simpa using hcs, by simpa using hnc, fun j z hj => ?_, fun z hz => ?_⟩
  · rw [List.getElem?_map] at hj
    rcases Nat.lt_or_ge j n with h | h
    · simp [h] at hj
      subst hj
      exact (hg j h).2
    · simp [h] at hj
  · obtain ⟨i, hi, rfl⟩ := List.mem_map.1 hz
    exact (hg i (List.mem_range.1 hi)).1
theorem arrI_ext (k : IntKind) (f : Nat → Int) : ∀ (n i : Nat) (cs : List Value), cs.length = n → (∀ j, j < n → cs[j]? = some (.int k (f (i + j)))) → cs = arrI k f n i
  | 0, i, [], _, _ => rfl
  | 0, i, _ :: _, h, _ => by simp at h
  | n + 1, i, [], h, _ => by simp at h
  | n + 1, i, c :: cs, h, hc => by
    have h0 := hc 0 (by omega)
    simp at h0
    simp only [arrI]
    rw [h0, ← arrI_ext k f n (i + 1) cs (by simpa using h) (fun j hj => by
      have := hc (j + 1) (by omega)
      rw [show i + 1 + j = i + (j + 1) by omega]
      simpa using this)]
/-- An array of numbers that was read. -/
theorem Rd.arr {n : Nat} {e : TypeId} {k : IntKind} (h : Rd enc P W t cs) (ht : P.underlying t = some (.array n e)) (he : P.underlying e = some (.int k)) (h1 : P.cellsOf e = 1) (hn : P.cellsOf t = n) : ∃ f : Nat → Int, cs = arrI k f n 0 := by
  obtain ⟨fuel, x, h⟩ := h
  obtain ⟨xs, m, _, _, hl, hxl, hg⟩ := DataW.trod_array ht h
  rw [hn] at hl
  have key : ∀ i, i < n → ∃ z : Int, cs[i]? = some (.int k z) := fun i hi => by
    have h2 := hg i hi
    rw [h1, List.getElem?_eq_getElem (by omega)] at h2
    obtain ⟨z, hz, _⟩ := DataW.trod_int he h2
    refine ⟨z, ?_⟩
    have : (cs.drop (i * 1)).take 1 = [cs[i]'(by omega)] := by
      rw [Nat.mul_one, List.drop_eq_getElem_cons (by omega)]; rfl
    rw [this] at hz
    simp at hz
    rw [List.getElem?_eq_getElem (by omega), hz]
  refine ⟨fun i => if h : i < n then Classical.choose (key i h) else 0, arrI_ext k _ n 0 cs hl (fun j hj => ?_)⟩
  rw [Nat.zero_add]
  simp only [hj, dif_pos]
  exact Classical.choose_spec (key j hj)
end

end Go.Proofs.YtcpjajjocmpkjaaDoor
