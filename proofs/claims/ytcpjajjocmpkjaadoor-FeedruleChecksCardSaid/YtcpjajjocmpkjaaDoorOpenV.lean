/- The reference's rules and items as arguments, with their sizes. No condition. -/
import Derived.Test.YtcpjajjocmpkjaaDoorOpenW
import Derived.Test.YtcpjajjocmpkjaaDoorOpenR
namespace Go.Proofs.YtcpjajjocmpkjaaDoor
open Go.ChangeShapes Go.WideShapes Go.ChangeAt Go.RowKit Go.Deep
section
variable {H : Type} {enc : TypeId × Value → H} {W : World} {base : Nat} {v : Value}
set_option maxRecDepth 100000 in
theorem openw_R (hv : Value.okWide Tryd.prog W .any base 24 v) (hr : Rw enc Tryd.prog W 24 v.cells.toList) :
    ∃ (nb ps : ByteArray) (mb dl : Int) (p : Option Addr) (ds : List ByteArray) (c : Nat), v = .agg #[.string nb, .string ps, .int .i64 mb, .int .i64 dl, .slice p ds.length c] ∧ ds.length ≤ c ∧ StrP W p ds ∧ (∀ z ∈ ds, z.size ≤ 140737488351232) := by
  obtain ⟨cs, rfl, hsz⟩ := okWide_struct Tryd.underlying24 hv
  rw [cellsR] at hsz
  obtain ⟨l⟩ := cs
  match l, hsz with
  | [c0, c1, c2, c3, c4], _ =>
    have hr : Rw enc Tryd.prog W 24 [c0, c1, c2, c3, c4] := hr
    obtain ⟨s0, e0, _⟩ := Rw.str (cs := [c0]) (hr.field Tryd.underlying24 (i := 0) rfl) Tryd.underlying9
    obtain ⟨s1, e1, _⟩ := Rw.str (cs := [c1]) (hr.field Tryd.underlying24 (i := 1) rfl) Tryd.underlying9
    obtain ⟨n2, e2, _⟩ := Rw.int64 (cs := [c2]) (hr.field Tryd.underlying24 (i := 2) rfl) Tryd.underlying3
    obtain ⟨n3, e3, _⟩ := Rw.int64 (cs := [c3]) (hr.field Tryd.underlying24 (i := 3) rfl) Tryd.underlying3
    obtain ⟨p, zs, c, e4, h4, _, h5⟩ := Rw.strs (cs := [c4]) (hr.field Tryd.underlying24 (i := 4) rfl) Tryd.underlying22 Tryd.underlying9 (by kernel_rfl)
    simp only [List.cons.injEq, and_true] at e0 e1 e2 e3 e4
    subst e0 e1 e2 e3 e4
    exact ⟨s0, s1, n2, n3, p, zs, c, rfl, h4, h5⟩
set_option maxRecDepth 100000 in
/-- The cells of an item. -/
theorem rw_I {l : List Value} (hl : l.length = 38) (hr : Rw enc Tryd.prog W 27 l) :
    ∃ (x : It) (q : Option Addr) (c : Nat), l.toArray = x.cells q c ∧ x.gs.length ≤ c ∧ StrP W q x.gs ∧ (∀ z ∈ x.gs, z.size ≤ 140737488351232) ∧ (-9223372036854775808 ≤ x.ar ∧ x.ar ≤ 9223372036854775807) ∧ (∀ j, 0 ≤ x.id j ∧ x.id j ≤ 255) := by
  obtain ⟨f, e0, hf⟩ := Rw.bytes (cs := (l.drop 0).take 32) (hr.field Tryd.underlying27 (i := 0) rfl) Tryd.underlying25 Tryd.underlying5 (by kernel_rfl) (by kernel_rfl)
  obtain ⟨q, zs, c, e1, g1, _, g2, g3⟩ := Rw.strs (cs := (l.drop 32).take 1) (hr.field Tryd.underlying27 (i := 1) rfl) Tryd.underlying22 Tryd.underlying9 (by kernel_rfl)
  obtain ⟨s2, e2, _⟩ := Rw.str (cs := (l.drop 33).take 1) (hr.field Tryd.underlying27 (i := 2) rfl) Tryd.underlying9
  obtain ⟨n3, e3, _⟩ := Rw.int64 (cs := (l.drop 34).take 1) (hr.field Tryd.underlying27 (i := 3) rfl) Tryd.underlying3
  obtain ⟨b4, e4⟩ := Rw.bool (cs := (l.drop 35).take 1) (hr.field Tryd.underlying27 (i := 4) rfl) Tryd.underlying4
  obtain ⟨s5, e5, _⟩ := Rw.str (cs := (l.drop 36).take 1) (hr.field Tryd.underlying27 (i := 5) rfl) Tryd.underlying9
  obtain ⟨n6, e6, w6⟩ := Rw.int64 (cs := (l.drop 37).take 1) (hr.field Tryd.underlying27 (i := 6) rfl) Tryd.underlying3
  have hd : ∀ k, l.drop (32 + k) = (l.drop 32).drop k := fun k => by rw [List.drop_drop]
  have e7 := six (l := l.drop 32) (by simp [hl]) e1 (by rw [← hd]; exact e2) (by rw [← hd]; exact e3) (by rw [← hd]; exact e4) (by rw [← hd]; exact e5) (by rw [← hd]; exact e6)
  have hl2 : l = arrI .u8 f 32 0 ++ [Value.slice q zs.length c, Value.string s2, Value.int .i64 n3, Value.bool b4, Value.string s5, Value.int .i64 n6] := by
    rw [← List.take_append_drop 32 l, e7]
    congr 1
  exact ⟨⟨f, zs, s2, n3, b4, s5, n6⟩, q, c, by rw [hl2]; rfl, g1, g2, g3, w6, hf⟩
set_option maxRecDepth 100000 in
theorem openw_I (hv : Value.okWide Tryd.prog W .any base 27 v) (hr : Rw enc Tryd.prog W 27 v.cells.toList) :
    ∃ (x : It) (q : Option Addr) (c : Nat), v = .agg (x.cells q c) ∧ x.gs.length ≤ c ∧ StrP W q x.gs ∧ (∀ z ∈ x.gs, z.size ≤ 140737488351232) ∧ (-9223372036854775808 ≤ x.ar ∧ x.ar ≤ 9223372036854775807) ∧ (∀ j, 0 ≤ x.id j ∧ x.id j ≤ 255) := by
  obtain ⟨cs, rfl, hsz⟩ := okWide_struct Tryd.underlying27 hv
  rw [cellsI] at hsz
  obtain ⟨l⟩ := cs
  obtain ⟨x, q, c, h1, h2⟩ := rw_I (l := l) hsz hr
  exact ⟨x, q, c, by rw [← h1], h2⟩
end
end Go.Proofs.YtcpjajjocmpkjaaDoor
