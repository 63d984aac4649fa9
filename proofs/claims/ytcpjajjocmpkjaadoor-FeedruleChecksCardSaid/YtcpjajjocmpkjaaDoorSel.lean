/- The contracts of wildmat's Len, Verdict and Selects, by plain functions. -/
import Derived.Test.YtcpjajjocmpkjaaDoorList
namespace Go.Proofs.YtcpjajjocmpkjaaDoor
open Go.RowKit

theorem entsS_ok : ∀ (ps : List ByteArray) (a : Int) (acc es : List Ent), entsS ps a acc = .inl es → acc.length ≤ 64 → (∀ e ∈ acc, e.els.length ≤ 80) → es.length ≤ 64 ∧ ∀ e ∈ es, e.els.length ≤ 80
  | [], a, acc, es, h, h1, h2 => by simp [entsS] at h; subst h; exact ⟨h1, h2⟩
  | x :: r, a, acc, es, h, h1, h2 => by
    unfold entsS at h
    split at h
    · cases h
    · split at h
      · cases h
      · rename_i els hc
        refine entsS_ok r _ _ es h (by simp; omega) (fun e he => ?_)
        rcases List.mem_append.1 he with he | he
        · exact h2 e he
        · simp at he; subst he; exact compileR_len hc
theorem listR_ok {s : ByteArray} {es : List Ent} (h : listR s = .inl es) : es.length ≤ 64 ∧ ∀ e ∈ es, e.els.length ≤ 80 := by
  unfold listR at h
  split at h
  · cases h
  · exact entsS_ok _ _ _ _ h (by simp) (by simp)
theorem ListR.len {D : Nat → Prop} {w : World} {b : Nat} {s : ByteArray} {es : List Ent} (h : ListR D w b s es) : ∃ p c, w.cell? ⟨b, 1, none⟩ = some (.slice p es.length c) := by
  obtain ⟨p, n, c, bs, h1, h2, h3, h4, h5, h6⟩ := h
  have hn := h3.1
  rw [entC_length bs es h5] at hn
  obtain rfl : n = es.length := by omega
  exact ⟨p, c, cell_at h1 rfl⟩
theorem len_any {D : Nat → Prop} {w : World} {b : Nat} {s : ByteArray} {es : List Ent} (h : ListR D w b s es) :
    Calls Tryd.prog 74 #[.pointer (some ⟨b, 0, none⟩)] w fun e w' => e = .returned (.int .i64 es.length) ∧ w' = w := by
  obtain ⟨p, c, hc⟩ := h.len
  exact vc_len b 0 w _ ⟨p, es.length, c, by rw [Nat.zero_add]; exact hc, rfl, rfl⟩
/-- The verdict of a list on a name. -/
def verd (es : List Ent) (s : ByteArray) : Int := es.foldl (fun a e => if matchB e.els s = true then e.v else a) 0
theorem verd_snoc (es : List Ent) (e : Ent) (s : ByteArray) : verd (es ++ [e]) s = if matchB e.els s = true then e.v else verd es s := by simp [verd]
/-- The cells of an entry. -/
theorem ListR.ent {D : Nat → Prop} {w : World} {b : Nat} {s : ByteArray} {es : List Ent} (h : ListR D w b s es) {k : Nat} {e : Ent} (hk : es[k]? = some e) :
    ∃ g c b', w.cell? ⟨b, 1, none⟩ = some (.slice (some ⟨g, 0, none⟩) es.length c) ∧ w.cell? ⟨g, 0 + k * 2, none⟩ = some (.pointer (some ⟨b', 0, none⟩)) ∧ w.cell? ⟨g, 0 + k * 2 + 1, none⟩ = some (.int .i64 e.v) ∧ PatR D w b' e.t e.els := by
  obtain ⟨p, n, c, bs, h1, h2, h3, h4, h5, h6⟩ := h
  have hlt : k < es.length := (List.getElem?_eq_some_iff.1 hk).1
  have hn := h3.1
  rw [entC_length bs es h5] at hn
  obtain rfl : n = es.length := by omega
  obtain ⟨b', hb'⟩ : ∃ b', bs[k]? = some b' := ⟨_, List.getElem?_eq_getElem (by omega)⟩
  obtain ⟨g1, g2⟩ := entC_get bs es k b' e hb' hk
  rcases h3.2 with ⟨_, h0⟩ | ⟨g, cap, cur, hv, _, hg, hnc, _, hsz, ht⟩
  · omega
  · simp only [Value.slice.injEq, true_and] at hv
    have key : ∀ i v, i < es.length * 2 → (entC bs es)[i]? = some v → w.cell? ⟨g, i, none⟩ = some v := fun i v hi hv => by
      rw [cell_block hg]
      rw [← ht, List.getElem?_take, if_pos hi] at hv
      simpa using hv
    obtain ⟨rfl, rfl⟩ := hv
    refine ⟨g, c, b', cell_at h1 rfl, ?_, ?_, h6 k b' e hb' hk⟩
    · rw [Nat.zero_add]; exact key _ _ (by omega) g1
    · rw [Nat.zero_add]; exact key _ _ (by omega) g2
theorem verdict_any {D : Nat → Prop} {w : World} {b : Nat} {t : ByteArray} {es : List Ent} (h : ListR D w b t es) (h64 : es.length ≤ 64) (h80 : ∀ e ∈ es, e.els.length ≤ 80) (s : ByteArray) (hs : s.size ≤ 9223372036854775807) :
    Calls Tryd.prog 58 #[.pointer (some ⟨b, 0, none⟩), .string s] w fun e w' => e = .returned (.int .i64 (verd es s)) ∧ K0 w w' := by
  refine vc_verdict b 0 s w _ ⟨(len_any h).mono fun e w' ⟨he, hw⟩ => ⟨_, he, ?_⟩⟩
  subst hw
  rw [wr64 (by omega) (by omega)]
  refine ⟨fun vs w2 => ∃ k : Nat, vs = [.int .i64 ((k : Int) - 1)] ∧ k ≤ es.length ∧ verd es s = verd (es.take k) s ∧ K0 w' w2, fun vs _ => (match vs with | [.int _ x] => (x + 1).toNat | _ => 0),
    ⟨es.length, rfl, Nat.le_refl _, by rw [List.take_length], .refl _ _⟩, fun x w2 ⟨k, hv, hk, hS, hw2⟩ => ?_⟩
  simp only [List.cons.injEq, Value.int.injEq, true_and, and_true] at hv
  subst hv
  have h2 := h.kp hw2 (fun _ _ _ h => h)
  refine bsp_intro (fun hge => ?_) (fun hlt => ?_)
  · have hge : 1 ≤ k := by simp at hge; omega
    obtain ⟨j, rfl⟩ : ∃ j, k = j + 1 := ⟨k - 1, by omega⟩
    have ej : ((j + 1 : Nat) : Int) - 1 = (j : Int) := by omega
    rw [ej]
    have ej2 : (j : Int).toNat = j := by omega
    rw [ej2]
    obtain ⟨y, hy⟩ : ∃ y, es[j]? = some y := ⟨_, List.getElem?_eq_getElem (by omega)⟩
    have htk : es.take (j + 1) = es.take j ++ [y] := by rw [List.take_add_one, hy]; rfl
    rw [htk, verd_snoc] at hS
    obtain ⟨g, c, b', c1, c2, c3, hp⟩ := h2.ent hy
    refine ⟨_, _, _, by rw [Nat.zero_add]; exact c1, ?_⟩
    show (0 ≤ (j : Int) ∧ (j : Int) < (es.length : Int)) ∧ _
    refine ⟨⟨by omega, by omega⟩, _, c2, ⟨(match_any hp (by have := h80 y (List.mem_of_getElem? hy); omega) s hs).mono fun e w3 ⟨he, hk3⟩ => ⟨_, he, ?_⟩⟩⟩
    have h3 := h2.kp hk3 (fun _ _ _ h => h)
    refine bsp_intro (fun hm => ?_) (fun hm => ?_)
    · obtain ⟨g, c, b', c1, c2, c3, hp⟩ := h3.ent hy
      refine ⟨_, _, _, by rw [Nat.zero_add]; exact c1, ?_⟩
      show (0 ≤ (j : Int) ∧ (j : Int) < (es.length : Int)) ∧ _
      refine ⟨⟨by omega, by omega⟩, _, c3, ?_, hw2.trans hk3⟩
      rw [hS, if_pos hm]
    · rw [if_neg (by rw [hm]; decide)] at hS
      rw [wr64 (by omega) (by omega)]
      exact ⟨⟨j, rfl, by omega, hS, hw2.trans hk3⟩, by simp⟩
  · have : k = 0 := by simp at hlt; omega
    subst this
    refine ⟨?_, hw2⟩
    rw [hS]
    rfl

/-- Strings that lie one behind the other. -/
def StrP (w : World) (p : Option Addr) (zs : List ByteArray) : Prop := ∀ j z, zs[j]? = some z → ∃ b o, p = some ⟨b, o, none⟩ ∧ w.cell? ⟨b, o + j, none⟩ = some (.string z)
theorem StrP.kp {M : Nat → Prop} {w w' : World} {p : Option Addr} {zs : List ByteArray} (h : StrP w p zs) (hk : Kp M w w') (hm : ∀ b o, p = some ⟨b, o, none⟩ → ¬ M b) : StrP w' p zs := fun j z hj => by
  obtain ⟨b, o, hp, hc⟩ := h j z hj
  exact ⟨b, o, hp, hk.cell' hc (hm b o hp)⟩
/-- A list accepts one of several names and poisons none of them. -/
def selB (es : List Ent) (zs : List ByteArray) : Bool := zs.all (fun z => !(verd es z == 3)) && zs.any (fun z => verd es z == 1)
theorem selects_any {D : Nat → Prop} {w : World} {b : Nat} {t : ByteArray} {es : List Ent} (h : ListR D w b t es) (h64 : es.length ≤ 64) (h80 : ∀ e ∈ es, e.els.length ≤ 80) (p : Option Addr) (c : Nat) (zs : List ByteArray) (hz : StrP w p zs) (hn : zs.length ≤ 9223372036854775807) (hs : ∀ z ∈ zs, z.size ≤ 9223372036854775807) :
    Calls Tryd.prog 39 #[.pointer (some ⟨b, 0, none⟩), .slice p zs.length c] w fun e w' => e = .returned (.bool (selB es zs)) ∧ K0 w w' := by
  refine vc_selects b 0 p zs.length c w _ ?_
  refine ⟨fun vs w2 => ∃ (k : Nat), vs = [.int .i64 k, .bool ((zs.take k).any fun z => verd es z == 1)] ∧ k ≤ zs.length ∧ (zs.take k).all (fun z => !(verd es z == 3)) = true ∧ K0 w w2, fun vs _ => (match vs with | .int _ x :: _ => zs.length - x.toNat | _ => 0),
    ⟨0, rfl, by omega, rfl, .refl _ _⟩, fun x x_1 w2 ⟨k, hv, hk, hall, hw2⟩ => ?_⟩
  simp only [List.cons.injEq, Value.int.injEq, true_and, and_true, Value.bool.injEq] at hv
  obtain ⟨rfl, rfl⟩ := hv
  refine bsp_intro (fun hlt => ?_) (fun hge => ?_)
  · have hlt : k < zs.length := by simpa using hlt
    obtain ⟨z, hzk⟩ : ∃ z, zs[k]? = some z := ⟨_, List.getElem?_eq_getElem hlt⟩
    have htk : zs.take (k + 1) = zs.take k ++ [z] := by rw [List.take_add_one, hzk]; rfl
    obtain ⟨b1, o1, rfl, hc⟩ := hz.kp hw2 (fun _ _ _ h => h) k z hzk
    have e0 : (k : Int).toNat = k := by omega
    show (0 ≤ (k : Int) ∧ (k : Int) < (zs.length : Int)) ∧ _
    refine ⟨⟨by omega, by omega⟩, z, by rw [e0]; exact hc, ?_⟩
    refine ⟨(verdict_any (h.kp hw2 (fun _ _ _ h => h)) h64 h80 z (hs z (List.mem_of_getElem? hzk))).mono fun e w3 ⟨he, hk3⟩ => ⟨_, he, ?_⟩⟩
    rw [wr64 (x := (k : Int) + 1) (by omega) (by omega)]
    refine bsp_intro (fun h1 => ⟨⟨k + 1, ?_, by omega, ?_, hw2.trans hk3⟩, by simp; omega⟩) (fun h1 => bsp_intro (fun h3 => ⟨?_, hw2.trans hk3⟩) (fun h3 => ⟨⟨k + 1, ?_, by omega, ?_, hw2.trans hk3⟩, by simp; omega⟩))
    · rw [htk, List.any_append]; simp [h1]
    · have h1' : verd es z = 1 := by simpa using h1
      rw [htk, List.all_append, hall]; simp [h1']
    · have : zs.all (fun z => !(verd es z == 3)) = false := by
        rw [List.all_eq_false]
        exact ⟨z, List.mem_of_getElem? hzk, by simp [h3]⟩
      simp [selB, this]
    · rw [htk, List.any_append]; simp [h1]
    · rw [htk, List.all_append, hall]; simp [h3]
  · have hge : ¬ k < zs.length := by simpa using hge
    obtain rfl : k = zs.length := by omega
    rw [List.take_length] at hall ⊢
    exact ⟨by simp [selB, hall], hw2⟩

end Go.Proofs.YtcpjajjocmpkjaaDoor
