/- Opener of a slice of charges. -/
import Derived.Test.YtcpjajjocmpkjaaDoorWrap
import Derived.Test.YtcpjajjocmpkjaaDoorQlaw
namespace Go.Proofs.YtcpjajjocmpkjaaDoor
open Go.ChangeShapes Go.WideShapes Go.ChangeAt Go.RowKit Go.Deep

theorem cells2 : Tryd.prog.cellsOf 56 = 2 := by kernel_rfl
set_option maxRecDepth 100000 in
theorem ch_of {H : Type} {enc : TypeId × Value → H} {W : World} {p : Option Addr} {n c : Nat} {d : DataW H} {ps : List MemPlace} (h : DataW.Trod enc Tryd.prog W 0 (fun _ => true) true 47 (.slice p n c) d ps) : ChP W p n := by
  obtain ⟨fuel, h⟩ := h
  rcases open_slice Tryd.underlying47 h with ⟨h0, _⟩ | ⟨a, len, cap, m, nn, D, Pl, hcs, hb, hl, hm, hmm, hx, hi⟩
  · have h0 : p = none ∧ n = 0 ∧ c = 0 := by simpa [Value.cells] using h0
    intro k hk
    omega
  · have hcs : p = some a ∧ n = len ∧ c = cap := by simpa [Value.cells] using hcs
    obtain ⟨rfl, rfl, rfl⟩ := hcs
    intro k hk
    obtain ⟨cs', hc, ht⟩ := hi k (by rw [hmm]; simp; omega)
    rw [cells2] at hc
    obtain ⟨_, hlen, hat⟩ := World.cells?_some hc
    obtain ⟨ys, n', _, _, _, hyl, hf⟩ := DataW.trod_struct Tryd.underlying56 ht
    have h0 := hf 0 _ rfl
    have h1 := hf 1 _ rfl
    match cs', hlen with
    | [u, v], _ =>
      have y0 : ys[0]? = some (ys[0]'(by rw [hyl]; decide)) := List.getElem?_eq_getElem _
      have y1 : ys[1]? = some (ys[1]'(by rw [hyl]; decide)) := List.getElem?_eq_getElem _
      rw [y0] at h0
      rw [y1] at h1
      obtain ⟨x, hx0, _⟩ := DataW.trod_int Tryd.underlying3 h0
      obtain ⟨y, hy0, _⟩ := DataW.trod_int Tryd.underlying3 h1
      have hx1 : [u] = [Value.int .i64 x] := hx0
      have hy1 : [v] = [Value.int .i64 y] := hy0
      clear hx0 hy0 h0 h1
      simp at hx1 hy1
      subst hx1 hy1
      have c0 := hat 0 (by omega)
      have c1 := hat 1 (by omega)
      have hspot : a.spot = none := by
        obtain ⟨cs0, hc0, _⟩ := hi 0 (by rw [hmm]; simp; omega)
        rw [cells2] at hc0
        obtain ⟨_, hl0, ha0⟩ := World.cells?_some hc0
        have h00 := ha0 0 (by omega)
        rw [List.getElem?_eq_getElem (by omega)] at h00
        have := World.cell?_spot h00
        simpa [Addr.add] using this
      obtain ⟨b, o, sp⟩ := a
      simp only at hspot
      subst hspot
      refine ⟨b, o, x, y, rfl, ?_, ?_⟩
      · rw [addr_add2] at c0; exact c0
      · rw [addr_add2] at c1; exact c1

end Go.Proofs.YtcpjajjocmpkjaaDoor
