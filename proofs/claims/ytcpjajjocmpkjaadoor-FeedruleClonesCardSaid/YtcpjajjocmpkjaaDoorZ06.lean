/- From contracts on worlds to the given statements: the last step of a law, the listed variables' world. No condition. -/
import Derived.Test.YtcpjajjocmpkjaaDoorCards
import Derived.Test.YtcpjajjocmpkjaaDoorTie
import Derived.Test.YtcpjajjocmpkjaaDoorZ03
import Derived.Test.YtcpjajjocmpkjaaDoorZ05
import Derived.WalkKit
import Derived.ProofKit
import Derived.OpenShut
import Derived.Shelf.Vars
import Derived.Deep.Slices
import Derived.Deep.DeepHandedRow
import Derived.Lib.LaidTab
import Derived.Test.YtcpjajjocmpkjaaDoorProg
import Derived.Test.YtcpjajjocmpkjaaDoorZ02
import Derived.Test.YtcpjajjocmpkjaaDoorZ04
import Derived.KernelRfl
namespace Go.Proofs.YtcpjajjocmpkjaaDoor
open Go.ChangeShapes Go.WideShapes Go.ChangeAt Go.RowKit Go.Deep

theorem own : ownKnob Tryd.prog.godebug = none := by kernel_rfl
/-- The library's variable holds a number. -/
theorem gw_of {w : World} (h : w.ShapedOpen Tryd.prog) : GW w := cell_of_shapedOpen_int (zero := #[.int .i64 0]) (t := 3) h (of_decide_eq_true (by kernel_rfl)) (by kernel_rfl) rfl (by kernel_rfl) (by kernel_rfl) Tryd.underlying3
theorem trodAll_kept {H : Type} {enc : TypeId × Value → H} {P : Program} {w w' : World} (hk : K0 w w') {base : Nat} {sp : Nat → Bool} : ∀ (ts : List TypeId) (vs : List Value) (ds : List (DataW H)) (ps : List MemPlace),
    (∀ t ∈ ts, posT P 12 t = true) → DataW.TrodAll enc P w base (fun _ => true) true ts vs ds ps → (∀ p ∈ ps, sp p.block = true) → DataW.TrodAll enc P w' base sp true ts vs ds ps
  | [], [], [], ps, _, h, _ => h
  | t :: ts, v :: vs, d :: ds, ps, ht, ⟨p, q, ⟨fuel, h1⟩, h2, h3⟩, hsp => by
    subst h3
    exact ⟨p, q, ⟨fuel, trod_kept hk fuel t 12 _ _ (ht t (by simp)) h1 (fun x hx => hsp x (by simp [hx]))⟩, trodAll_kept hk ts vs ds q (fun u hu => ht u (by simp [hu])) h2 (fun x hx => hsp x (by simp [hx])), rfl⟩
  | [], [], _ :: _, _, _, h, _ => h.elim
  | [], _ :: _, _, _, _, h, _ => h.elim
  | _ :: _, [], _, _, _, h, _ => h.elim
  | _ :: _, _ :: _, [], _, _, h, _ => h.elim
section
variable {H : Type} {enc : TypeId × Value → H} {P : Program}
theorem post_of_k0 {f : Func} {s : ChangeSpec} {apart fresh handsOn again : Bool} {W W' : World} {args : Array Value} {ds gs : List (DataW H)} {before : List MemPlace} (hpos : f.params.toList.all (posT P 12) = true) {tb : TypeId} (htb : P.underlying tb = some .bool) (hrt : f.resultTypes = #[tb])
    (hW : DataW.Whole enc P f.params.toList s.vars apart W args.toList ds gs before) (hvars : s.vars = [])
    (hfn : (s.fn H (ds ++ gs)).results = [.lit (.bool true)] ∧ (s.fn H (ds ++ gs)).args = ds ∧ (s.fn H (ds ++ gs)).vars = []) (hk : K0 W W') :
    s.post enc P f apart fresh handsOn again W args (.bool true) W' := by
  have hb : Below W.heap.size W W' := hk.below
  have hW0 := hW
  obtain ⟨p, q, hA, hV, hps, hz, hn⟩ := hW
  rw [hvars] at hV
  have hq : gs = [] ∧ q = [] := by
    cases gs with
    | nil => exact ⟨rfl, hV⟩
    | cons g r => exact hV.elim
  obtain ⟨rfl, rfl⟩ := hq
  rw [List.append_nil] at hps
  subst hps
  have hlt : ∀ x ∈ before, x.block < W.heap.size := fun x hx => hW0.lt x hx
  have hold : ∀ x ∈ before, (fun b => decide (b < W.heap.size)) x.block = true := fun x hx => by simpa using hlt x hx
  have hargs : ∀ sp : Nat → Bool, (∀ x ∈ before, sp x.block = true) → DataW.TrodAll enc P W' 0 sp true f.params.toList args.toList (s.fn H (ds ++ [])).args before := fun sp hsp => by
    rw [hfn.2.1]; exact trodAll_kept hk _ _ _ _ (fun t ht => List.all_eq_true.1 hpos t ht) hA hsp
  have hvs : ∀ sp : Nat → Bool, DataW.TrodVars enc P W' sp s.vars (s.fn H (ds ++ [])).vars [] := fun sp => by rw [hvars, hfn.2.2]; exact rfl
  have hres : ∀ (b : Nat) (sp : Nat → Bool) (hd : Bool), DataW.TrodAll enc P W' b sp hd f.resultTypes.toList ((Value.bool true).resultList f.resultTypes.size) (s.fn H (ds ++ [])).results [] := fun b sp hd => by
    rw [hfn.1, hrt]; exact trodAll_cons_mk (shut_bool htb _) trodAll_mk0
  refine ⟨ds, [], before, [], before, [], hW0, hres _ _ _, hargs _ hold, hvs _, World.keptBut_mono (fun x hx => ⟨hx, Or.inr (by simpa using hx)⟩) (hb.frame (· ∈ before)), fun _ => ?_⟩
  refine ⟨?_, _, _, ([] ++ before) ++ [], ⟨[] ++ before, [], trodAll_append (hargs _ (fun _ _ => rfl)) (hres _ _ _), hvs _, rfl, ?_, ?_⟩, ?_⟩
  · intro j t r hj hr
    rw [hrt] at hj hr
    have : j = 0 := by
      rcases Nat.eq_zero_or_pos j with h | h
      · exact h
      · simp [Array.getElem?_eq_none (xs := #[tb]) (i := j) (by simp; omega)] at hj
    subst this
    simp at hj
    subst hj
    have : r = .bool true := by simpa [Value.resultList] using hr.symm
    subst this
    exact okWide_bool_mk htb _
  · intro b off hp
    have hin : MemPlace.cell b off ∈ before := by simpa using hp
    rw [hb.frozen (hlt _ hin)]
    exact hz b off hin
  · intro ha
    have := hn ha
    simpa using this
  · intro x hx _
    simpa using hx
end

/-! ### A world that holds the listed tables -/
def flatD {H : Type} : Nat → DataW H → List Value
  | 0, _ => []
  | _ + 1, .lit (.int k n) => [.int k n]
  | n + 1, .agg l => l.flatMap (flatD n)
  | _ + 1, _ => []
def setRow (cs : List Value) : Obj → Obj
  | .cells _ t frozen => .cells cs.toArray t frozen
  | o => o
noncomputable def laidWorld (os : Os) : World :=
  { World.holding Tryd.prog os ⟨#[], #[], []⟩ with heap := ((World.holding Tryd.prog os ⟨#[], #[], []⟩).heap.modify 1 (setRow (flatD 3 Rows.laid_unicode_utf8_first))).modify 2 (setRow (flatD 3 (Rows.laid_unicode_utf8_acceptRanges (H := Unit)))) }

end Go.Proofs.YtcpjajjocmpkjaaDoor

/- The contracts of wildmat's Len, Verdict and Selects, by plain functions. -/
namespace Go.Proofs.YtcpjajjocmpkjaaDoor
open Go.RowKit

theorem entsS_ok : ∀ (ps : List ByteArray) (a : Int) (acc es : List Ent), entsS ps a acc = .inl es → acc.length ≤ 64 → (∀ e ∈ acc, e.els.length ≤ 80) → es.length ≤ 64 ∧ ∀ e ∈ es, e.els.length ≤ 80
  | [], a, acc, es, h, h1, h2 => by simp [entsS] at h; subst h; exact ⟨h1, h2⟩
  | x :: r, a, acc, es, h, h1, h2 => by
    unfold entsS at h
    split at h
    · cases h
    · split at h
      · cases h
      · rename_i els hc
        refine entsS_ok r _ _ es h (by simp; omega) (fun e he => ?_)
        rcases List.mem_append.1 he with he | he
        · exact h2 e he
        · simp at he; subst he; exact compileR_len hc
theorem listR_ok {s : ByteArray} {es : List Ent} (h : listR s = .inl es) : es.length ≤ 64 ∧ ∀ e ∈ es, e.els.length ≤ 80 := by
  unfold listR at h
  split at h
  · cases h
  · exact entsS_ok _ _ _ _ h (by simp) (by simp)
theorem ListR.len {D : Nat → Prop} {w : World} {b : Nat} {s : ByteArray} {es : List Ent} (h : ListR D w b s es) : ∃ p c, w.cell? ⟨b, 1, none⟩ = some (.slice p es.length c) := by
  obtain ⟨p, n, c, bs, h1, h2, h3, h4, h5, h6⟩ := h
  have hn := h3.1
  rw [entC_length bs es h5] at hn
  obtain rfl : n = es.length := by omega
  exact ⟨p, c, cell_at h1 rfl⟩
theorem len_any {D : Nat → Prop} {w : World} {b : Nat} {s : ByteArray} {es : List Ent} (h : ListR D w b s es) :
    Calls Tryd.prog 74 #[.pointer (some ⟨b, 0, none⟩)] w fun e w' => e = .returned (.int .i64 es.length) ∧ w' = w := by
  obtain ⟨p, c, hc⟩ := h.len
  exact vc_len b 0 w _ ⟨p, es.length, c, by rw [Nat.zero_add]; exact hc, rfl, rfl⟩
/-- The verdict of a list on a name. -/
def verd (es : List Ent) (s : ByteArray) : Int := es.foldl (fun a e => if matchB e.els s = true then e.v else a) 0
theorem verd_snoc (es : List Ent) (e : Ent) (s : ByteArray) : verd (es ++ [e]) s = if matchB e.els s = true then e.v else verd es s := by simp [verd]
/-- The cells of an entry. -/
theorem ListR.ent {D : Nat → Prop} {w : World} {b : Nat} {s : ByteArray} {es : List Ent} (h : ListR D w b s es) {k : Nat} {e : Ent} (hk : es[k]? = some e) :
    ∃ g c b', w.cell? ⟨b, 1, none⟩ = some (.slice (some ⟨g, 0, none⟩) es.length c) ∧ w.cell? ⟨g, 0 + k * 2, none⟩ = some (.pointer (some ⟨b', 0, none⟩)) ∧ w.cell? ⟨g, 0 + k * 2 + 1, none⟩ = some (.int .i64 e.v) ∧ PatR D w b' e.t e.els := by
  obtain ⟨p, n, c, bs, h1, h2, h3, h4, h5, h6⟩ := h
  have hlt : k < es.length := (List.getElem?_eq_some_iff.1 hk).1
  have hn := h3.1
  rw [entC_length bs es h5] at hn
  obtain rfl : n = es.length := by omega
  obtain ⟨b', hb'⟩ : ∃ b', bs[k]? = some b' := ⟨_, List.getElem?_eq_getElem (by omega)⟩
  obtain ⟨g1, g2⟩ := entC_get bs es k b' e hb' hk
  rcases h3.2 with ⟨_, h0⟩ | ⟨g, cap, cur, hv, _, hg, hnc, _, hsz, ht⟩
  · omega
  · simp only [Value.slice.injEq, true_and] at hv
    have key : ∀ i v, i < es.length * 2 → (entC bs es)[i]? = some v → w.cell? ⟨g, i, none⟩ = some v := fun i v hi hv => by
      rw [cell_block hg]
      rw [← ht, List.getElem?_take, if_pos hi] at hv
      simpa using hv
    obtain ⟨rfl, rfl⟩ := hv
    refine ⟨g, c, b', cell_at h1 rfl, ?_, ?_, h6 k b' e hb' hk⟩
    · rw [Nat.zero_add]; exact key _ _ (by omega) g1
    · rw [Nat.zero_add]; exact key _ _ (by omega) g2
theorem verdict_any {D : Nat → Prop} {w : World} {b : Nat} {t : ByteArray} {es : List Ent} (h : ListR D w b t es) (h64 : es.length ≤ 64) (h80 : ∀ e ∈ es, e.els.length ≤ 80) (s : ByteArray) (hs : s.size ≤ 9223372036854775807) :
    Calls Tryd.prog 58 #[.pointer (some ⟨b, 0, none⟩), .string s] w fun e w' => e = .returned (.int .i64 (verd es s)) ∧ K0 w w' := by
  refine vc_verdict b 0 s w _ ⟨(len_any h).mono fun e w' ⟨he, hw⟩ => ⟨_, he, ?_⟩⟩
  subst hw
  rw [wr64 (by omega) (by omega)]
  refine ⟨fun vs w2 => ∃ k : Nat, vs = [.int .i64 ((k : Int) - 1)] ∧ k ≤ es.length ∧ verd es s = verd (es.take k) s ∧ K0 w' w2, fun vs _ => (match vs with | [.int _ x] => (x + 1).toNat | _ => 0),
    ⟨es.length, rfl, Nat.le_refl _, by rw [List.take_length], .refl _ _⟩, fun x w2 ⟨k, hv, hk, hS, hw2⟩ => ?_⟩
  simp only [List.cons.injEq, Value.int.injEq, true_and, and_true] at hv
  subst hv
  have h2 := h.kp hw2 (fun _ _ _ h => h)
  refine bsp_intro (fun hge => ?_) (fun hlt => ?_)
  · have hge : 1 ≤ k := by simp at hge; omega
    obtain ⟨j, rfl⟩ : ∃ j, k = j + 1 := ⟨k - 1, by omega⟩
    have ej : ((j + 1 : Nat) : Int) - 1 = (j : Int) := by omega
    rw [ej]
    have ej2 : (j : Int).toNat = j := by omega
    rw [ej2]
    obtain ⟨y, hy⟩ : ∃ y, es[j]? = some y := ⟨_, List.getElem?_eq_getElem (by omega)⟩
    have htk : es.take (j + 1) = es.take j ++ [y] := by rw [List.take_add_one, hy]; rfl
    rw [htk, verd_snoc] at hS
    obtain ⟨g, c, b', c1, c2, c3, hp⟩ := h2.ent hy
    refine ⟨_, _, _, by rw [Nat.zero_add]; exact c1, ?_⟩
    show (0 ≤ (j : Int) ∧ (j : Int) < (es.length : Int)) ∧ _
    refine ⟨⟨by omega, by omega⟩, _, c2, ⟨(match_any hp (by have := h80 y (List.mem_of_getElem? hy); omega) s hs).mono fun e w3 ⟨he, hk3⟩ => ⟨_, he, ?_⟩⟩⟩
    have h3 := h2.kp hk3 (fun _ _ _ h => h)
    refine bsp_intro (fun hm => ?_) (fun hm => ?_)
    · obtain ⟨g, c, b', c1, c2, c3, hp⟩ := h3.ent hy
      refine ⟨_, _, _, by rw [Nat.zero_add]; exact c1, ?_⟩
      show (0 ≤ (j : Int) ∧ (j : Int) < (es.length : Int)) ∧ _
      refine ⟨⟨by omega, by omega⟩, _, c3, ?_, hw2.trans hk3⟩
      rw [hS, if_pos hm]
    · rw [if_neg (by rw [hm]; decide)] at hS
      rw [wr64 (by omega) (by omega)]
      exact ⟨⟨j, rfl, by omega, hS, hw2.trans hk3⟩, by simp⟩
  · have : k = 0 := by simp at hlt; omega
    subst this
    refine ⟨?_, hw2⟩
    rw [hS]
    rfl

/-- Strings that lie one behind the other. -/
def StrP (w : World) (p : Option Addr) (zs : List ByteArray) : Prop := ∀ j z, zs[j]? = some z → ∃ b o, p = some ⟨b, o, none⟩ ∧ w.cell? ⟨b, o + j, none⟩ = some (.string z)
theorem StrP.kp {M : Nat → Prop} {w w' : World} {p : Option Addr} {zs : List ByteArray} (h : StrP w p zs) (hk : Kp M w w') (hm : ∀ b o, p = some ⟨b, o, none⟩ → ¬ M b) : StrP w' p zs := fun j z hj => by
  obtain ⟨b, o, hp, hc⟩ := h j z hj
  exact ⟨b, o, hp, hk.cell' hc (hm b o hp)⟩
/-- A list accepts one of several names and poisons none of them. -/
def selB (es : List Ent) (zs : List ByteArray) : Bool := zs.all (fun z => !(verd es z == 3)) && zs.any (fun z => verd es z == 1)
theorem selects_any {D : Nat → Prop} {w : World} {b : Nat} {t : ByteArray} {es : List Ent} (h : ListR D w b t es) (h64 : es.length ≤ 64) (h80 : ∀ e ∈ es, e.els.length ≤ 80) (p : Option Addr) (c : Nat) (zs : List ByteArray) (hz : StrP w p zs) (hn : zs.length ≤ 9223372036854775807) (hs : ∀ z ∈ zs, z.size ≤ 9223372036854775807) :
    Calls Tryd.prog 39 #[.pointer (some ⟨b, 0, none⟩), .slice p zs.length c] w fun e w' => e = .returned (.bool (selB es zs)) ∧ K0 w w' := by
  refine vc_selects b 0 p zs.length c w _ ?_
  refine ⟨fun vs w2 => ∃ (k : Nat), vs = [.int .i64 k, .bool ((zs.take k).any fun z => verd es z == 1)] ∧ k ≤ zs.length ∧ (zs.take k).all (fun z => !(verd es z == 3)) = true ∧ K0 w w2, fun vs _ => (match vs with | .int _ x :: _ => zs.length - x.toNat | _ => 0),
    ⟨0, rfl, by omega, rfl, .refl _ _⟩, fun x x_1 w2 ⟨k, hv, hk, hall, hw2⟩ => ?_⟩
  simp only [List.cons.injEq, Value.int.injEq, true_and, and_true, Value.bool.injEq] at hv
  obtain ⟨rfl, rfl⟩ := hv
  refine bsp_intro (fun hlt => ?_) (fun hge => ?_)
  · have hlt : k < zs.length := by simpa using hlt
    obtain ⟨z, hzk⟩ : ∃ z, zs[k]? = some z := ⟨_, List.getElem?_eq_getElem hlt⟩
    have htk : zs.take (k + 1) = zs.take k ++ [z] := by rw [List.take_add_one, hzk]; rfl
    obtain ⟨b1, o1, rfl, hc⟩ := hz.kp hw2 (fun _ _ _ h => h) k z hzk
    have e0 : (k : Int).toNat = k := by omega
    show (0 ≤ (k : Int) ∧ (k : Int) < (zs.length : Int)) ∧ _
    refine ⟨⟨by omega, by omega⟩, z, by rw [e0]; exact hc, ?_⟩
    refine ⟨(verdict_any (h.kp hw2 (fun _ _ _ h => h)) h64 h80 z (hs z (List.mem_of_getElem? hzk))).mono fun e w3 ⟨he, hk3⟩ => ⟨_, he, ?_⟩⟩
    rw [wr64 (x := (k : Int) + 1) (by omega) (by omega)]
    refine bsp_intro (fun h1 => ⟨⟨k + 1, ?_, by omega, ?_, hw2.trans hk3⟩, by simp; omega⟩) (fun h1 => bsp_intro (fun h3 => ⟨?_, hw2.trans hk3⟩) (fun h3 => ⟨⟨k + 1, ?_, by omega, ?_, hw2.trans hk3⟩, by simp; omega⟩))
    · rw [htk, List.any_append]; simp [h1]
    · have h1' : verd es z = 1 := by simpa using h1
      rw [htk, List.all_append, hall]; simp [h1']
    · have : zs.all (fun z => !(verd es z == 3)) = false := by
        rw [List.all_eq_false]
        exact ⟨z, List.mem_of_getElem? hzk, by simp [h3]⟩
      simp [selB, this]
    · rw [htk, List.any_append]; simp [h1]
    · rw [htk, List.all_append, hall]; simp [h3]
  · have hge : ¬ k < zs.length := by simpa using hge
    obtain rfl : k = zs.length := by omega
    rw [List.take_length] at hall ⊢
    exact ⟨by simp [selB, hall], hw2⟩

end Go.Proofs.YtcpjajjocmpkjaaDoor

/- What an argument that was read gives: its cells, strings of slices, bytes of arrays. Generic but for the types' numbers. No condition. -/
namespace Go.Proofs.YtcpjajjocmpkjaaDoor
open Go.ChangeShapes Go.WideShapes Go.ChangeAt Go.RowKit Go.Deep

/-- Cells that were read as a value of a type. -/
def Rd {H : Type} (enc : TypeId × Value → H) (P : Program) (W : World) (t : TypeId) (cs : List Value) : Prop := ∃ (fuel : Nat) (x : DataW H × List MemPlace), DataW.trod enc P W 0 (fun _ => true) true fuel t cs = some x
section
variable {H : Type} {enc : TypeId × Value → H} {P : Program} {W : World} {t : TypeId} {cs : List Value}
theorem Rd.of {v : Value} {d : DataW H} {ps : List MemPlace} (h : DataW.Trod enc P W 0 (fun _ => true) true t v d ps) : Rd enc P W t v.cells.toList := by
  obtain ⟨fuel, h⟩ := h; exact ⟨fuel, _, h⟩
theorem Rd.field {fs : Array Field} (h : Rd enc P W t cs) (ht : P.underlying t = some (.struct fs)) {i : Nat} {f : Field} (hf : fs[i]? = some f) : Rd enc P W f.type ((cs.drop f.offset).take (P.cellsOf f.type)) := by
  obtain ⟨fuel, x, h⟩ := h
  obtain ⟨xs, n, _, _, _, hl, hg⟩ := DataW.trod_struct ht h
  have hi : i < xs.length := by rw [hl]; exact (Array.getElem?_eq_some_iff.1 hf).1
  exact ⟨n, xs[i], by rw [hg i f hf, List.getElem?_eq_getElem hi]⟩
theorem Rd.int {k : IntKind} (h : Rd enc P W t cs) (ht : P.underlying t = some (.int k)) : ∃ n, cs = [.int k n] ∧ (Lit.int k n).wf = true := by
  obtain ⟨fuel, x, h⟩ := h
  obtain ⟨n, h1, _, h2⟩ := DataW.trod_int ht h
  exact ⟨n, h1, h2⟩
theorem Rd.bool (h : Rd enc P W t cs) (ht : P.underlying t = some .bool) : ∃ b, cs = [.bool b] := by
  obtain ⟨fuel, x, h⟩ := h
  obtain ⟨b, h1, _⟩ := DataW.trod_bool ht h
  exact ⟨b, h1⟩
theorem Rd.str (h : Rd enc P W t cs) (ht : P.underlying t = some .string) : ∃ s : ByteArray, cs = [.string s] ∧ s.size ≤ 9223372036854775807 := by
  obtain ⟨fuel, x, h⟩ := h
  obtain ⟨s, h1, _, h2⟩ := DataW.trod_string ht h
  exact ⟨s, h1, h2⟩
/-- A slice that was read: its elements. -/
theorem Rd.slice {e : TypeId} (h : Rd enc P W t cs) (ht : P.underlying t = some (.slice e)) (hp : 0 < P.cellsOf e) : ∃ (p : Option Addr) (n c : Nat), cs = [.slice p n c] ∧ n ≤ c ∧ n ≤ 9223372036854775807 ∧
    ∀ i, i < n → ∃ (b o : Nat) (cs' : List Value), p = some ⟨b, o, none⟩ ∧ cs'.length = P.cellsOf e ∧ (∀ j v, cs'[j]? = some v → W.cell? ⟨b, o + i * P.cellsOf e + j, none⟩ = some v) ∧ Rd enc P W e cs' := by
  obtain ⟨fuel, x, h⟩ := h
  rcases open_slice ht h with ⟨h0, _⟩ | ⟨a, len, cap, m, nn, D, Pl, hcs, hb, hl, hm, hmm, hx, hi⟩
  · exact ⟨none, 0, 0, h0, by omega, by omega, fun i hi => by omega⟩
  · refine ⟨some a, len, cap, hcs, hl, by unfold maxLen at hm; omega, fun i hilt => ?_⟩
    have hmc : m = cap := by rw [hmm]; rfl
    obtain ⟨cs', hc, ht'⟩ := hi i (by omega)
    obtain ⟨_, hlen, hat⟩ := World.cells?_some hc
    have hspot : a.spot = none := by
      obtain ⟨cs0, hc0, _⟩ := hi 0 (by omega)
      obtain ⟨_, hl0, ha0⟩ := World.cells?_some hc0
      have h00 := ha0 0 hp
      rw [List.getElem?_eq_getElem (by omega)] at h00
      have := World.cell?_spot h00
      simpa [Addr.add] using this
    obtain ⟨b, o, sp⟩ := a
    simp only at hspot
    subst hspot
    refine ⟨b, o, cs', rfl, hlen, fun j v hj => ?_, nn, _, ht'⟩
    have hjl : j < P.cellsOf e := by have := (List.getElem?_eq_some_iff.1 hj).1; omega
    have := hat j hjl
    rw [addr_add2, hj] at this
    exact this
/-- A slice of strings that was read. -/
theorem Rd.strs {e : TypeId} (h : Rd enc P W t cs) (ht : P.underlying t = some (.slice e)) (he : P.underlying e = some .string) (h1 : P.cellsOf e = 1) : ∃ (p : Option Addr) (zs : List ByteArray) (c : Nat), cs = [.slice p zs.length c] ∧ zs.length ≤ c ∧ StrP W p zs ∧ ∀ z ∈ zs, z.size ≤ 9223372036854775807 := by
  obtain ⟨p, n, c, hcs, hnc, _, hel⟩ := h.slice ht (by omega)
  have key : ∀ i, i < n → ∃ z : ByteArray, z.size ≤ 9223372036854775807 ∧ ∃ b o, p = some ⟨b, o, none⟩ ∧ W.cell? ⟨b, o + i, none⟩ = some (.string z) := fun i hi => by
    obtain ⟨b, o, cs', hp, hl, hc, hr⟩ := hel i hi
    obtain ⟨z, rfl, hz⟩ := hr.str he
    have := hc 0 _ rfl
    rw [h1] at this
    exact ⟨z, hz, b, o, hp, by simpa using this⟩
  have hex : ∃ g : Nat → ByteArray, ∀ i, i < n → (g i).size ≤ 9223372036854775807 ∧ ∃ b o, p = some ⟨b, o, none⟩ ∧ W.cell? ⟨b, o + i, none⟩ = some (.string (g i)) := by
    refine ⟨fun i => if h : i < n then Classical.choose (key i h) else ByteArray.empty, fun i hi => ?_⟩
    simp only [hi, dif_pos]
    exact Classical.choose_spec (key i hi)
  obtain ⟨g, hg⟩ := hex
  refine ⟨p, (List.range n).map g, c, by simpa using hcs, by simpa using hnc, fun j z hj => ?_, fun z hz => ?_⟩
  · rw [List.getElem?_map] at hj
    rcases Nat.lt_or_ge j n with h | h
    · simp [h] at hj
      subst hj
      exact (hg j h).2
    · simp [h] at hj
  · obtain ⟨i, hi, rfl⟩ := List.mem_map.1 hz
    exact (hg i (List.mem_range.1 hi)).1
theorem arrI_ext (k : IntKind) (f : Nat → Int) : ∀ (n i : Nat) (cs : List Value), cs.length = n → (∀ j, j < n → cs[j]? = some (.int k (f (i + j)))) → cs = arrI k f n i
  | 0, i, [], _, _ => rfl
  | 0, i, _ :: _, h, _ => by simp at h
  | n + 1, i, [], h, _ => by simp at h
  | n + 1, i, c :: cs, h, hc => by
    have h0 := hc 0 (by omega)
    simp at h0
    simp only [arrI]
    rw [h0, ← arrI_ext k f n (i + 1) cs (by simpa using h) (fun j hj => by
      have := hc (j + 1) (by omega)
      rw [show i + 1 + j = i + (j + 1) by omega]
      simpa using this)]
/-- An array of numbers that was read. -/
theorem Rd.arr {n : Nat} {e : TypeId} {k : IntKind} (h : Rd enc P W t cs) (ht : P.underlying t = some (.array n e)) (he : P.underlying e = some (.int k)) (h1 : P.cellsOf e = 1) (hn : P.cellsOf t = n) : ∃ f : Nat → Int, cs = arrI k f n 0 := by
  obtain ⟨fuel, x, h⟩ := h
  obtain ⟨xs, m, _, _, hl, hxl, hg⟩ := DataW.trod_array ht h
  rw [hn] at hl
  have key : ∀ i, i < n → ∃ z : Int, cs[i]? = some (.int k z) := fun i hi => by
    have h2 := hg i hi
    rw [h1, List.getElem?_eq_getElem (by omega)] at h2
    obtain ⟨z, hz, _⟩ := DataW.trod_int he h2
    refine ⟨z, ?_⟩
    have : (cs.drop (i * 1)).take 1 = [cs[i]'(by omega)] := by
      rw [Nat.mul_one, List.drop_eq_getElem_cons (by omega)]; rfl
    rw [this] at hz
    simp at hz
    rw [List.getElem?_eq_getElem (by omega), hz]
  refine ⟨fun i => if h : i < n then Classical.choose (key i h) else 0, arrI_ext k _ n 0 cs hl (fun j hj => ?_)⟩
  rw [Nat.zero_add]
  simp only [hj, dif_pos]
  exact Classical.choose_spec (key j hj)
end

end Go.Proofs.YtcpjajjocmpkjaaDoor

/- The formulas of functions by the symbolic evaluator, and that each gives the call's contract. Written by a program (gen.py). No condition. -/
namespace Go.Proofs.YtcpjajjocmpkjaaDoor
set_option maxRecDepth 100000
set_option linter.unusedVariables false

def VC_fcompile (nb : ByteArray) (ps : ByteArray) (mb : Int) (dl : Int) (p : Option Addr) (n : Nat) (c : Nat) (w : World) (R : Ending → World → Prop) : Prop :=
 ∀ (n_1 : Nat) (w1 : World),
 NewB w
 (Obj.cells #[Value.string nb, Value.string ps, Value.int IntKind.i64 mb, Value.int IntKind.i64 dl, Value.slice p n c]
 28)
 n_1 w1 →
 ∃ (x : ByteArray),
 ∃ (x_1 : ByteArray),
 ∃ (x_2 : Int),
 ∃ (x_3 : Int),
 ∃ (p : Option Addr),
 ∃ (n : Nat),
 ∃ (c : Nat),
 AtL w1 n_1 0
 [Value.string x, Value.string x_1, Value.int IntKind.i64 x_2, Value.int IntKind.i64 x_3, Value.slice p n c] ∧
 CallsS Tryd.prog 24
 #[Value.agg
 #[Value.string x, Value.string x_1, Value.int IntKind.i64 x_2, Value.int IntKind.i64 x_3,
 Value.slice p n c]]
 w1 fun (e : Ending) (w' : World) =>
 ∃ (x : Int),
 e = Ending.returned (Value.int IntKind.i64 x) ∧
 bsp (x != 0) (R (Ending.returned (Value.tuple #[Value.pointer none, Value.int IntKind.i64 x])) w')
 (∃ (x : ByteArray),
 w'.cell? (Addr.mk n_1 (0 + 1) none) = some (Value.string x) ∧
 CallsS Tryd.prog 30 #[Value.string x] w' fun (e : Ending) (w' : World) =>
 ∃ (x : Option Addr),
 ∃ (x_4 : Int),
 ∃ (x_5 : Int),
 e =
 Ending.returned
 (Value.tuple #[Value.pointer x, Value.int IntKind.i64 x_4, Value.int IntKind.i64 x_5]) ∧
 bsp (x_5 != 0)
 (R (Ending.returned (Value.tuple #[Value.pointer none, Value.int IntKind.i64 x_5])) w')
 (∃ (p : Option Addr),
 ∃ (n : Nat),
 ∃ (c : Nat),
 w'.cell? (Addr.mk n_1 (0 + 4) none) = some (Value.slice p n c) ∧
 CallsS Tryd.prog 31 #[Value.slice p n c] w' fun (e : Ending) (w' : World) =>
 ∃ (p : Option Addr),
 ∃ (n : Nat),
 ∃ (c : Nat),
 e = Ending.returned (Value.slice p n c) ∧
 ((∃ (u : Value), w'.cell? (Addr.mk n_1 (0 + 4) none) = some u) ∧
 w'.frozen? (Addr.mk n_1 (0 + 4) none) = false) ∧
 ∀ (w1 : World),
 PutB w' n_1 (0 + 4) [Value.slice p n c] w1 →
 ∃ (x_6 : ByteArray),
 ∃ (x_7 : ByteArray),
 ∃ (x_8 : Int),
 ∃ (x_9 : Int),
 ∃ (p : Option Addr),
 ∃ (n : Nat),
 ∃ (c : Nat),
 AtL w1 n_1 0
 [Value.string x_6, Value.string x_7, Value.int IntKind.i64 x_8,
 Value.int IntKind.i64 x_9, Value.slice p n c] ∧
 ∀ (n_2 : Nat) (w1_1 : World),
 NewB w1
 (Obj.cells
 #[Value.string x_6, Value.string x_7, Value.int IntKind.i64 x_8,
 Value.int IntKind.i64 x_9, Value.slice p n c, Value.pointer x]
 81)
 n_2 w1_1 →
 R
 (Ending.returned
 (Value.tuple
 #[Value.pointer (some (Addr.mk n_2 0 none)), Value.int IntKind.i64 0]))
 w1_1))
theorem vc_fcompile (nb : ByteArray) (ps : ByteArray) (mb : Int) (dl : Int) (p : Option Addr) (n : Nat) (c : Nat) (w : World) (R : Ending → World → Prop) (h : VC_fcompile nb ps mb dl p n c w R) : Calls Tryd.prog 11 ([Value.agg
    #[Value.string nb, Value.string ps, Value.int IntKind.i64 mb, Value.int IntKind.i64 dl,
      Value.slice p n c]] : List Value).toArray w R := by
  have e : execR { P := Tryd.prog, loops := [], pur := pur1, tails := [], joins := [], boxes := [] } Tryd.f11.results.toList R (Tryd.f11.body.getD .skip) (initF [Value.agg
    #[Value.string nb, Value.string ps, Value.int IntKind.i64 mb, Value.int IntKind.i64 dl,
      Value.slice p n
        c]] (Tryd.f11.ntmps - ([Value.agg
    #[Value.string nb, Value.string ps, Value.int IntKind.i64 mb, Value.int IntKind.i64 dl,
      Value.slice p n c]] : List Value).length)) w = VC_fcompile nb ps mb dl p n c w R := by kernel_rfl
  have hb : Tryd.f11.body = some (Tryd.f11.body.getD .skip) := by kernel_rfl
  exact calls_of_exec' (P := Tryd.prog) (fn := Tryd.f11) (c := Tryd.f11.body.getD .skip) (args := [Value.agg
    #[Value.string nb, Value.string ps, Value.int IntKind.i64 mb, Value.int IntKind.i64 dl,
      Value.slice p n c]]) (w := w) (R := R) pur1_ok Tryd.func11 hb e h

def VC_frule (b : Nat) (o : Nat) (w : World) (R : Ending → World → Prop) : Prop :=
 ∀ (n : Nat) (w1 : World),
 NewB w
 (Obj.cells
 #[Value.string (ByteArray.mk #[]), Value.string (ByteArray.mk #[]), Value.int IntKind.i64 0,
 Value.int IntKind.i64 0, Value.slice none 0 0]
 28)
 n w1 →
 ∃ (x : ByteArray),
 ∃ (x_1 : ByteArray),
 ∃ (x_2 : Int),
 ∃ (x_3 : Int),
 ∃ (p : Option Addr),
 ∃ (n_1 : Nat),
 ∃ (c : Nat),
 AtL w1 b o
 [Value.string x, Value.string x_1, Value.int IntKind.i64 x_2, Value.int IntKind.i64 x_3,
 Value.slice p n_1 c] ∧
 ∀ (n_2 : Nat) (w1_1 : World),
 NewB w1
 (Obj.cells
 #[Value.string (ByteArray.mk #[]), Value.string (ByteArray.mk #[]), Value.int IntKind.i64 0,
 Value.int IntKind.i64 0, Value.slice none 0 0]
 28)
 n_2 w1_1 →
 WrL w1_1 n_2 0 5 ∧
 ∀ (w1 : World),
 PutB w1_1 n_2 0
 [Value.string x, Value.string x_1, Value.int IntKind.i64 x_2, Value.int IntKind.i64 x_3,
 Value.slice p n_1 c]
 w1 →
 ∃ (p : Option Addr),
 ∃ (n_3 : Nat),
 ∃ (c : Nat),
 w1.cell? (Addr.mk n_2 (0 + 4) none) = some (Value.slice p n_3 c) ∧
 CallsS Tryd.prog 31 #[Value.slice p n_3 c] w1 fun (e : Ending) (w' : World) =>
 ∃ (p : Option Addr),
 ∃ (n_4 : Nat),
 ∃ (c : Nat),
 e = Ending.returned (Value.slice p n_4 c) ∧
 ((∃ (u : Value), w'.cell? (Addr.mk n_2 (0 + 4) none) = some u) ∧
 w'.frozen? (Addr.mk n_2 (0 + 4) none) = false) ∧
 ∀ (w1 : World),
 PutB w' n_2 (0 + 4) [Value.slice p n_4 c] w1 →
 ∃ (x : ByteArray),
 ∃ (x_4 : ByteArray),
 ∃ (x_5 : Int),
 ∃ (x_6 : Int),
 ∃ (p : Option Addr),
 ∃ (n_5 : Nat),
 ∃ (c : Nat),
 AtL w1 n_2 0
 [Value.string x, Value.string x_4, Value.int IntKind.i64 x_5,
 Value.int IntKind.i64 x_6, Value.slice p n_5 c] ∧
 WrL w1 n 0 5 ∧
 ∀ (w1_2 : World),
 PutB w1 n 0
 [Value.string x, Value.string x_4, Value.int IntKind.i64 x_5,
 Value.int IntKind.i64 x_6, Value.slice p n_5 c]
 w1_2 →
 ∃ (x : ByteArray),
 ∃ (x_7 : ByteArray),
 ∃ (x_8 : Int),
 ∃ (x_9 : Int),
 ∃ (p : Option Addr),
 ∃ (n_6 : Nat),
 ∃ (c : Nat),
 AtL w1_2 n 0
 [Value.string x, Value.string x_7, Value.int IntKind.i64 x_8,
 Value.int IntKind.i64 x_9, Value.slice p n_6 c] ∧
 R
 (Ending.returned
 (Value.agg
 #[Value.string x, Value.string x_7, Value.int IntKind.i64 x_8,
 Value.int IntKind.i64 x_9, Value.slice p n_6 c]))
 w1_2
theorem vc_frule (b : Nat) (o : Nat) (w : World) (R : Ending → World → Prop) (h : VC_frule b o w R) : Calls Tryd.prog 25 ([Value.pointer
    (some { block := b, off := o })] : List Value).toArray w R := by
  have e : execR { P := Tryd.prog, loops := [], pur := pur1, tails := [], joins := [], boxes := [] } Tryd.f25.results.toList R (Tryd.f25.body.getD .skip) (initF [Value.pointer
    (some
      { block := b,
        off :=
          o })] (Tryd.f25.ntmps - ([Value.pointer
    (some { block := b, off := o })] : List Value).length)) w = VC_frule b o w R := by kernel_rfl
  have hb : Tryd.f25.body = some (Tryd.f25.body.getD .skip) := by kernel_rfl
  exact calls_of_exec' (P := Tryd.prog) (fn := Tryd.f25) (c := Tryd.f25.body.getD .skip) (args := [Value.pointer
    (some { block := b, off := o })]) (w := w) (R := R) pur1_ok Tryd.func25 hb e h

def VC_fruleNil (w : World) (R : Ending → World → Prop) : Prop :=
 ∀ (n : Nat) (w1 : World),
 NewB w
 (Obj.cells
 #[Value.string (ByteArray.mk #[]), Value.string (ByteArray.mk #[]), Value.int IntKind.i64 0,
 Value.int IntKind.i64 0, Value.slice none 0 0]
 28)
 n w1 →
 WrL w1 n 0 5 ∧
 ∀ (w1_1 : World),
 PutB w1 n 0
 [Value.string (ByteArray.mk #[]), Value.string (ByteArray.mk #[]), Value.int IntKind.i64 0,
 Value.int IntKind.i64 0, Value.slice none 0 0]
 w1_1 →
 ∃ (x : ByteArray),
 ∃ (x_1 : ByteArray),
 ∃ (x_2 : Int),
 ∃ (x_3 : Int),
 ∃ (p : Option Addr),
 ∃ (n_1 : Nat),
 ∃ (c : Nat),
 AtL w1_1 n 0
 [Value.string x, Value.string x_1, Value.int IntKind.i64 x_2, Value.int IntKind.i64 x_3,
 Value.slice p n_1 c] ∧
 R
 (Ending.returned
 (Value.agg
 #[Value.string x, Value.string x_1, Value.int IntKind.i64 x_2, Value.int IntKind.i64 x_3,
 Value.slice p n_1 c]))
 w1_1
theorem vc_fruleNil (w : World) (R : Ending → World → Prop) (h : VC_fruleNil w R) : Calls Tryd.prog 25 ([Value.pointer
    none] : List Value).toArray w R := by
  have e : execR { P := Tryd.prog, loops := [], pur := pur1, tails := [], joins := [], boxes := [] } Tryd.f25.results.toList R (Tryd.f25.body.getD .skip) (initF [Value.pointer
    none] (Tryd.f25.ntmps - ([Value.pointer none] : List Value).length)) w = VC_fruleNil w R := by kernel_rfl
  have hb : Tryd.f25.body = some (Tryd.f25.body.getD .skip) := by kernel_rfl
  exact calls_of_exec' (P := Tryd.prog) (fn := Tryd.f25) (c := Tryd.f25.body.getD .skip) (args := [Value.pointer
    none]) (w := w) (R := R) pur1_ok Tryd.func25 hb e h

end Go.Proofs.YtcpjajjocmpkjaaDoor

/- The contracts of feedrule's Rule.Check, Compile and Feed.Rule, by plain functions. Texts have at most 2^30 bytes. -/
namespace Go.Proofs.YtcpjajjocmpkjaaDoor
open Go.RowKit

/-- The first error among distributions. -/
def dstS : List ByteArray → List ByteArray → Int
  | _, [] => 0
  | pre, d :: r => if distB d = false then 12 else if Lib.containsS pre d = true then 7 else dstS (pre ++ [d]) r
/-- The first error of a rule. -/
def chkS (nb ps : ByteArray) (mb dl : Int) (ds : List ByteArray) : Int :=
  if (siteS nb).2 ≠ 0 then (siteS nb).2 else
  match listR ps with
  | .inr (_, e) => e
  | .inl _ => if mb < 0 ∨ 65536 < mb ∨ dl < 0 ∨ 20160 < dl then 2 else if 8 < ds.length then 9 else dstS [] ds
theorem entsS_err : ∀ (ps : List ByteArray) (a : Int) (acc : List Ent) (o e : Int), entsS ps a acc = .inr (o, e) → e ≠ 0
  | [], a, acc, o, e, h => by simp [entsS] at h
  | x :: r, a, acc, o, e, h => by
    unfold entsS at h
    split at h
    · simp at h; omega
    · split at h
      · rename_i o' e' hc
        simp at h
        have := (compileR_off _ _ _ hc).2
        rw [← h.2]; exact this
      · exact entsS_err r _ _ o e h
theorem listR_err {s : ByteArray} {o e : Int} (h : listR s = .inr (o, e)) : e ≠ 0 := by
  unfold listR at h
  split at h
  · simp at h; omega
  · exact entsS_err _ _ _ _ _ h
theorem strP_cells {w : World} {b o : Nat} {zs : List ByteArray} (h : StrP w (some ⟨b, o, none⟩) zs) : ∀ j, j < zs.length → w.cell? ⟨b, o + j, none⟩ = some (.string (zs.getD j ByteArray.empty)) := fun j hj => by
  obtain ⟨b', o', he, hc⟩ := h j zs[j] (List.getElem?_eq_getElem hj)
  simp only [Option.some.injEq, Addr.mk.injEq] at he
  obtain ⟨rfl, rfl, _⟩ := he
  rw [hc]
  simp [List.getD_eq_getElem?_getD, hj]

set_option maxHeartbeats 400000 in
theorem check_any (nb ps : ByteArray) (mb dl : Int) (p : Option Addr) (c : Nat) (ds : List ByteArray) (w : World) (hps : ps.size ≤ 1073741824) (hG : GW w) (hds : StrP w p ds) (hc : ds.length ≤ c) (hl : ds.length ≤ 1073741824) :
    Calls Tryd.prog 24 #[.agg #[.string nb, .string ps, .int .i64 mb, .int .i64 dl, .slice p ds.length c]] w fun e w' => e = .returned (.int .i64 (chkS nb ps mb dl ds)) ∧ K0 w w' := by
  refine vc_check nb ps mb dl p ds.length c w _ ?_
  intro n w1 hn
  have hk1 : K0 w w1 := hn.kp _
  refine ⟨nb, cell_at hn.block rfl, ⟨(site_any nb w1).mono fun e w2 ⟨he, hw⟩ => ⟨_, _, he, ?_⟩⟩⟩
  subst hw
  generalize hsi : (siteS nb).2 = si
  generalize (siteS nb).1 = si1
  refine bsp_intro (fun h => ⟨?_, hk1⟩) (fun h => ?_)
  · have h : si ≠ 0 := by simpa using h
    simp [chkS, hsi, h]
  have h : si = 0 := by simpa using h
  refine ⟨ps, cell_at hn.block rfl, ⟨(parseList_any ps w2 hps (hG.kp hk1 (fun h => h))).mono fun e w3 ⟨hk3, he⟩ => ?_⟩⟩
  have hk13 : K0 w w3 := hk1.trans hk3
  have hb3 := hk3.blk hn.block (fun h => h)
  cases hL : listR ps with
  | inr oe =>
    obtain ⟨o, er⟩ := oe
    rw [hL] at he
    refine ⟨none, o, er, he, ?_⟩
    have := listR_err hL
    refine bsp_intro (fun _ => ⟨?_, hk13⟩) (fun h => absurd h (by simpa using this))
    simp [chkS, hsi, h, hL]
  | inl es =>
    rw [hL] at he
    obtain ⟨lb, he, _⟩ := he
    refine ⟨_, _, _, he, ?_⟩
    refine bsp_intro (fun h => absurd h (by decide)) (fun _ => ?_)
    have c2 : w3.cell? ⟨n, 0 + 2, none⟩ = some (.int .i64 mb) := cell_at hb3 rfl
    have c3 : w3.cell? ⟨n, 0 + 3, none⟩ = some (.int .i64 dl) := cell_at hb3 rfl
    have c4 : w3.cell? ⟨n, 0 + 4, none⟩ = some (.slice p ds.length c) := cell_at hb3 rfl
    refine ⟨mb, c2, mb, gimp_intro fun _ => c2, dl, gimp_intro fun _ => c3, dl, gimp_intro fun _ => c3, ?_⟩
    refine bsp_intro (fun hr => ⟨?_, hk13⟩) (fun hr => ?_)
    · have hr : mb < 0 ∨ 65536 < mb ∨ dl < 0 ∨ 20160 < dl := by simp at hr; omega
      simp [chkS, hsi, h, hL, hr]
    have hr : ¬ (mb < 0 ∨ 65536 < mb ∨ dl < 0 ∨ 20160 < dl) := by simp at hr; omega
    refine ⟨p, ds.length, c, c4, ?_⟩
    refine bsp_intro (fun h8 => ⟨?_, hk13⟩) (fun h8 => ?_)
    · have h8 : 8 < ds.length := by simp at h8; omega
      simp [chkS, hsi, h, hL, hr, h8]
    have h8 : ¬ 8 < ds.length := by simp at h8; omega
    have hR : chkS nb ps mb dl ds = dstS [] ds := by simp [chkS, hsi, h, hL, hr, h8]
    rw [hR]
    refine ⟨p, ds.length, c, c4, ?_⟩
    refine count1 ds.length (by omega) (fun k w4 => dstS [] ds = dstS (ds.take k) (ds.drop k) ∧ K0 w3 w4) ⟨rfl, .refl _ _⟩ ?_
    intro I m k w4 hk ⟨hS, hk4⟩ next
    refine bsp_intro (fun hlt => ?_) (fun hge => ?_)
    · have hlt : k < ds.length := by simpa using hlt
      obtain ⟨z, hz⟩ : ∃ z, ds[k]? = some z := ⟨_, List.getElem?_eq_getElem hlt⟩
      have hdr : ds.drop k = z :: ds.drop (k + 1) := by
        rw [List.drop_eq_getElem_cons hlt]
        rw [List.getElem?_eq_getElem hlt] at hz
        simp at hz
        rw [hz]
      have htk : ds.take (k + 1) = ds.take k ++ [z] := by rw [List.take_add_one, hz]; rfl
      rw [hdr] at hS
      have hd4 := hds.kp (hk13.trans hk4) (fun _ _ _ h => h)
      obtain ⟨b1, o1, rfl, hcz⟩ := hd4 k z hz
      have e0 : (k : Int).toNat = k := by omega
      show (0 ≤ (k : Int) ∧ (k : Int) < (ds.length : Int)) ∧ _
      refine ⟨⟨by omega, by omega⟩, z, by rw [e0]; exact hcz, ⟨(isDist_any z w4).mono fun e w5 ⟨he, hw⟩ => ⟨_, he, ?_⟩⟩⟩
      subst hw
      refine bsp_intro (fun hd => ⟨?_, hk13.trans hk4⟩) (fun hd => ?_)
      · have hd : distB z = false := by simpa using hd
        rw [hS]; simp [dstS, hd]
      have hd : distB z = true := by simpa using hd
      refine ⟨some ⟨b1, o1, none⟩, ds.length, c, cell_at (hk4.blk hb3 (fun h => h)) rfl, ⟨by omega, by omega⟩, ?_⟩
      rw [e0]
      refine ⟨(Tryd.slices_Contains_string b1 o1 k c ds z w5 (by omega) (by omega) (strP_cells hd4)).mono fun e w6 ⟨he, hw⟩ => ⟨_, he, ?_⟩⟩
      subst hw
      refine bsp_intro (fun hcn => ⟨?_, hk13.trans hk4⟩) (fun hcn => ?_)
      · rw [hS]; simp [dstS, hd, hcn]
      · refine next hlt w6 ⟨?_, hk4⟩
        rw [hS, htk]; simp [dstS, hd, hcn]
    · have hge : ¬ k < ds.length := by simpa using hge
      obtain rfl : k = ds.length := by omega
      refine ⟨?_, hk13.trans hk4⟩
      rw [hS, List.drop_length]; rfl

/-- A feed in the memory. -/
def FeedR (D : Nat → Prop) (w : World) (b : Nat) (nb ps : ByteArray) (mb dl : Int) (ds : List ByteArray) (es : List Ent) : Prop :=
  ∃ (p : Option Addr) (n c lb : Nat), w.heap[b]? = some (.cells #[.string nb, .string ps, .int .i64 mb, .int .i64 dl, .slice p n c, .pointer (some ⟨lb, 0, none⟩)] 81 (0, 0)) ∧ D b ∧ n = ds.length ∧ StrP w p ds ∧ (∀ k o, p = some ⟨k, o, none⟩ → D k ∧ k < w.heap.size) ∧ (p = none → ds = []) ∧ ListR D w lb ps es
theorem FeedR.kp {D M : Nat → Prop} {w w' : World} {b : Nat} {nb ps : ByteArray} {mb dl : Int} {ds : List ByteArray} {es : List Ent} (h : FeedR D w b nb ps mb dl ds es) (hk : Kp M w w') (hm : ∀ k, D k → k < w.heap.size → ¬ M k) : FeedR D w' b nb ps mb dl ds es := by
  obtain ⟨p, n, c, lb, h1, h2, h3, h4, h5, h6, h7⟩ := h
  exact ⟨p, n, c, lb, hk.blk h1 (hm b h2 (block_lt h1)), h2, h3, h4.kp hk (fun k o e => hm k (h5 k o e).1 (h5 k o e).2), fun k o e => ⟨(h5 k o e).1, Nat.lt_of_lt_of_le (h5 k o e).2 hk.size⟩, h6, h7.kp hk hm⟩
theorem own_strP {w : World} {base : Nat} {p : Option Addr} {n c : Nat} {zs : List ByteArray} {t : TypeId} (h : w.ownsRow base t 1 (.slice p n c) n (zs.map Value.string)) : n = zs.length ∧ n ≤ c ∧ StrP w p zs ∧ (∀ k o, p = some ⟨k, o, none⟩ → base ≤ k ∧ k < w.heap.size) ∧ (p = none → zs = []) := by
  have hl := h.1
  rw [List.length_map] at hl
  refine ⟨by omega, ?_, fun j z hj => ?_, fun k o e => ?_, fun e => ?_⟩
  · rcases h.2 with ⟨_, h0⟩ | ⟨g, cap, cur, hv, _, _, h9, _⟩
    · omega
    · simp at hv; omega
  · obtain ⟨g, v, hp, hv, hc⟩ := own_cell h (k := j) (by have := (List.getElem?_eq_some_iff.1 hj).1; omega)
    rw [List.getElem?_map, hj] at hv
    simp at hv
    subst hv
    exact ⟨g, 0, hp, hc⟩
  · subst e
    exact ⟨own_ge h rfl, own_lt h rfl⟩
  · subst e
    rcases h.2 with ⟨_, h0⟩ | ⟨g, cap, cur, hv, _⟩
    · exact List.eq_nil_of_length_eq_zero (by omega)
    · simp at hv
theorem clone_any (p : Option Addr) (c : Nat) (zs : List ByteArray) (w : World) (h : StrP w p zs) (hl : zs.length ≤ 1073741824) : Calls Tryd.prog 31 #[.slice p zs.length c] w fun e w' =>
    ∃ p' c', e = .returned (.slice p' zs.length c') ∧ w'.ownsRow w.heap.size 9 1 (.slice p' zs.length c') zs.length (zs.map Value.string) ∧ K0 w w' := by
  have fin : ∀ (v' : Value) (w' : World), w'.ownsRow w.heap.size 9 1 v' zs.length (zs.map Value.string) → K0 w w' → ∃ p' c', Ending.returned v' = .returned (.slice p' zs.length c') ∧ w'.ownsRow w.heap.size 9 1 (.slice p' zs.length c') zs.length (zs.map Value.string) ∧ K0 w w' := fun v' w' ho hk => by
    rcases ho.2 with ⟨rfl, h0⟩ | ⟨g, cap, cur, rfl, _⟩
    · exact ⟨none, 0, by rw [h0], by rw [h0] at ho ⊢; exact ho, hk⟩
    · exact ⟨_, _, rfl, ho, hk⟩
  cases p with
  | none =>
    have : zs = [] := by
      cases zs with
      | nil => rfl
      | cons z r => obtain ⟨b, o, he, _⟩ := h 0 z rfl; simp at he
    subst this
    exact (Tryd.slices_Clone_string_nil 0 c w).mono fun e w' ⟨he, hw⟩ => ⟨none, 0, he, World.ownsRow_nil _ _ _ _, by rw [hw]; exact .refl _ _⟩
  | some a =>
    rcases Nat.eq_zero_or_pos zs.length with h0 | h0
    · have : zs = [] := List.eq_nil_of_length_eq_zero h0
      subst this
      exact (Tryd.slices_Clone_string_zero a c w).mono fun e w' ⟨v', he, ho, _, hb⟩ => by rw [he]; exact fin v' w' ho (K0.of_below hb)
    · obtain ⟨b, o, he, hc⟩ := h 0 zs[0] (List.getElem?_eq_getElem h0)
      rw [he] at h ⊢
      exact (Tryd.slices_Clone_string b o zs.length c zs w (Nat.le_refl _) (by omega) (strP_cells h)).mono fun e w' ⟨v', he, ho, _, hb⟩ => by
        rw [he]
        rw [List.take_length] at ho
        exact fin v' w' ho (K0.of_below hb)

set_option maxHeartbeats 400000 in
theorem fcompile_any (nb ps : ByteArray) (mb dl : Int) (p : Option Addr) (c : Nat) (ds : List ByteArray) (w : World) (hps : ps.size ≤ 1073741824) (hG : GW w) (hds : StrP w p ds) (hc : ds.length ≤ c) (hl : ds.length ≤ 1073741824) :
    Calls Tryd.prog 11 #[.agg #[.string nb, .string ps, .int .i64 mb, .int .i64 dl, .slice p ds.length c]] w fun e w' => K0 w w' ∧
      (chkS nb ps mb dl ds ≠ 0 ∧ e = .returned (.tuple #[.pointer none, .int .i64 (chkS nb ps mb dl ds)]) ∨
       chkS nb ps mb dl ds = 0 ∧ ∃ b es, listR ps = .inl es ∧ e = .returned (.tuple #[.pointer (some ⟨b, 0, none⟩), .int .i64 0]) ∧ FeedR (fun k => w.heap.size ≤ k) w' b nb ps mb dl ds es) := by
  refine vc_fcompile nb ps mb dl p ds.length c w _ ?_
  intro n w1 hn
  have hk1 : K0 w w1 := hn.kp _
  have hn0 : w.heap.size ≤ n := hn.ge
  refine ⟨nb, ps, mb, dl, p, ds.length, c, AtL_block hn.block rfl, ⟨(check_any nb ps mb dl p c ds w1 hps (hG.kp hk1 (fun h => h)) (hds.kp hk1 (fun _ _ _ h => h)) hc hl).mono fun e w2 ⟨he, hk2⟩ => ⟨_, he, ?_⟩⟩⟩
  have hk12 : K0 w w2 := hk1.trans hk2
  generalize hch : chkS nb ps mb dl ds = ch
  refine bsp_intro (fun h => ⟨hk12, .inl ⟨by simpa using h, rfl⟩⟩) (fun h => ?_)
  have h : ch = 0 := by simpa using h
  subst h
  have hb2 := hk2.blk hn.block (fun h => h)
  refine ⟨ps, cell_at hb2 rfl, ⟨(parseList_any ps w2 hps (hG.kp hk12 (fun h => h))).mono fun e w3 ⟨hk3, he⟩ => ?_⟩⟩
  have hk13 : K0 w w3 := hk12.trans hk3
  have hb3 := hk3.blk hb2 (fun h => h)
  cases hL : listR ps with
  | inr oe =>
    obtain ⟨o, er⟩ := oe
    exfalso
    have h1 := listR_err hL
    unfold chkS at hch
    rw [hL] at hch
    split at hch
    · rename_i h2; exact h2 hch
    · exact h1 hch
  | inl es =>
    rw [hL] at he
    obtain ⟨lb, he, hlr⟩ := he
    refine ⟨_, _, _, he, ?_⟩
    refine bsp_intro (fun h => absurd h (by decide)) (fun _ => ?_)
    refine ⟨p, ds.length, c, cell_at hb3 rfl, ⟨(clone_any p c ds w3 (hds.kp hk13 (fun _ _ _ h => h)) hl).mono fun e w4 ⟨p', c', he, ho, hk4⟩ => ⟨_, _, _, he, ?_⟩⟩⟩
    have hb4 := hk4.blk hb3 (fun h => h)
    have hk14 : K0 w w4 := hk13.trans hk4
    refine ⟨cell_wr hb4 (by simp), fun w5 hp5 => ?_⟩
    have hb5 : w5.heap[n]? = some (.cells #[.string nb, .string ps, .int .i64 mb, .int .i64 dl, .slice p' ds.length c'] 28 (0, 0)) := hp5.block hb4
    refine ⟨nb, ps, mb, dl, p', ds.length, c', AtL_block hb5 rfl, fun n2 w6 hn6 => ?_⟩
    have hn3 : n < w3.heap.size := block_lt hb3
    have ho5 := owns_kp ho hp5.kp (fun k hk e => by have := own_ge ho hk; omega)
    have hk15 : K0 w w5 := hk14.fresh hp5.kp (fun i hi e => by omega)
    have hl5 : ListR (fun k => w2.heap.size ≤ k) w5 lb ps es := (hlr.kp hk4 (fun _ _ _ h => h)).kp hp5.kp (fun k hk _ e => by have := block_lt hb2; omega)
    obtain ⟨_, _, hs5, hd5, hz5⟩ := own_strP ho5
    have hk6 := hn6.kp (fun _ => False)
    refine ⟨hk15.trans hk6, .inr ⟨rfl, n2, es, rfl, rfl, p', ds.length, c', lb, hn6.block, ?_, rfl, hs5.kp hk6 (fun _ _ _ h => h), fun k o e => ?_, hz5, ?_⟩⟩
    · have := hn6.ge; have := hk15.size; omega
    · have h1 := hd5 k o e; have h2 := hk13.size; have h3 := hk6.size; omega
    · exact (hl5.kp hk6 (fun _ _ _ h => h)).mono fun k hk _ => by have := hk12.size; omega

end Go.Proofs.YtcpjajjocmpkjaaDoor

/- The formulas of functions by the symbolic evaluator, and that each gives the call's contract. Written by a program (gen.py). No condition. -/
namespace Go.Proofs.YtcpjajjocmpkjaaDoor
set_option maxRecDepth 100000
set_option linter.unusedVariables false

def VC_reasA (b : Nat) (o : Nat) (b1 : Nat) (o1 : Nat) (w : World) (R : Ending → World → Prop) : Prop :=
 ∃ (x : ByteArray),
 w.drew.cell? (Addr.mk b (o + 36) none) = some (Value.string x) ∧
 ∃ (x_1 : Option Addr),
 w.drew.cell? (Addr.mk b1 o1 none) = some (Value.pointer x_1) ∧
 nn true x_1 fun (b o : Nat) =>
 ∃ (x_2 : ByteArray),
 w.drew.cell? (Addr.mk b o none) = some (Value.string x_2) ∧
 R (Ending.returned (Value.bool (x.toList == x_2.toList))) w.drew
theorem vc_reasA (b : Nat) (o : Nat) (b1 : Nat) (o1 : Nat) (w : World) (R : Ending → World → Prop) (h : VC_reasA b o b1 o1 w R) : Calls Tryd.prog 37 ([Value.pointer
    (some { block := b, off := o }),
  Value.pointer (some { block := b1, off := o1 })] : List Value).toArray w R := by
  have e : execR { P := Tryd.prog, loops := [], pur := pur1, tails := [], joins := [], boxes := [] } Tryd.f37.results.toList R (Tryd.f37.body.getD .skip) (initF [Value.pointer
    (some { block := b, off := o }),
  Value.pointer
    (some
      { block := b1,
        off :=
          o1 })] (Tryd.f37.ntmps - ([Value.pointer (some { block := b, off := o }),
  Value.pointer (some { block := b1, off := o1 })] : List Value).length)) w = VC_reasA b o b1 o1 w R := by kernel_rfl
  have hb : Tryd.f37.body = some (Tryd.f37.body.getD .skip) := by kernel_rfl
  exact calls_of_exec' (P := Tryd.prog) (fn := Tryd.f37) (c := Tryd.f37.body.getD .skip) (args := [Value.pointer
    (some { block := b, off := o }),
  Value.pointer (some { block := b1, off := o1 })]) (w := w) (R := R) pur1_ok Tryd.func37 hb e h

def VC_reasB (b : Nat) (o : Nat) (b1 : Nat) (o1 : Nat) (w : World) (R : Ending → World → Prop) : Prop :=
 ∃ (x : Bool),
 w.drew.cell? (Addr.mk b (o + 35) none) = some (Value.bool x) ∧
 ∃ (x_1 : Option Addr),
 gimp (!x) (w.drew.cell? (Addr.mk b1 o1 none) = some (Value.pointer x_1)) ∧
 nn (!x) x_1 fun (b_1 o_1 : Nat) =>
 ∃ (x_2 : Option Addr),
 gimp (!x) (w.drew.cell? (Addr.mk b_1 (o_1 + 5) none) = some (Value.pointer x_2)) ∧
 ∃ (p : Option Addr),
 ∃ (n : Nat),
 ∃ (c : Nat),
 gimp (!x) (w.drew.cell? (Addr.mk b (o + 32) none) = some (Value.slice p n c)) ∧
 bsp (!x)
 (CallsS Tryd.prog 39 #[Value.pointer x_2, Value.slice p n c] w.drew fun (e : Ending) (w' : World) =>
 ∃ (x : Bool), e = Ending.returned (Value.bool x) ∧ R (Ending.returned (Value.bool (true && !x))) w')
 (R (Ending.returned (Value.bool false)) w.drew)
theorem vc_reasB (b : Nat) (o : Nat) (b1 : Nat) (o1 : Nat) (w : World) (R : Ending → World → Prop) (h : VC_reasB b o b1 o1 w R) : Calls Tryd.prog 38 ([Value.pointer
    (some { block := b, off := o }),
  Value.pointer (some { block := b1, off := o1 })] : List Value).toArray w R := by
  have e : execR { P := Tryd.prog, loops := [], pur := pur1, tails := [(1, 10)], joins := [], boxes := [] } Tryd.f38.results.toList R (Tryd.f38.body.getD .skip) (initF [Value.pointer
    (some { block := b, off := o }),
  Value.pointer
    (some
      { block := b1,
        off :=
          o1 })] (Tryd.f38.ntmps - ([Value.pointer (some { block := b, off := o }),
  Value.pointer (some { block := b1, off := o1 })] : List Value).length)) w = VC_reasB b o b1 o1 w R := by kernel_rfl
  have hb : Tryd.f38.body = some (Tryd.f38.body.getD .skip) := by kernel_rfl
  exact calls_of_exec' (P := Tryd.prog) (fn := Tryd.f38) (c := Tryd.f38.body.getD .skip) (args := [Value.pointer
    (some { block := b, off := o }),
  Value.pointer (some { block := b1, off := o1 })]) (w := w) (R := R) pur1_ok Tryd.func38 hb e h

def VC_reasC (b : Nat) (o : Nat) (b1 : Nat) (o1 : Nat) (w : World) (R : Ending → World → Prop) : Prop :=
 ∃ (x : Bool),
 w.drew.cell? (Addr.mk b (o + 35) none) = some (Value.bool x) ∧
 ∃ (x_1 : Option Addr),
 gimp (!x) (w.drew.cell? (Addr.mk b1 o1 none) = some (Value.pointer x_1)) ∧
 nn (!x) x_1 fun (b_1 o_1 : Nat) =>
 ∃ (x_2 : Int),
 gimp (!x) (w.drew.cell? (Addr.mk b_1 (o_1 + 2) none) = some (Value.int IntKind.i64 x_2)) ∧
 ∃ (x_3 : Option Addr),
 gimp (!x && x_2 != 0) (w.drew.cell? (Addr.mk b1 o1 none) = some (Value.pointer x_3)) ∧
 nn (!x && x_2 != 0) x_3 fun (b_2 o_2 : Nat) =>
 ∃ (x_4 : Int),
 gimp (!x && x_2 != 0) (w.drew.cell? (Addr.mk b_2 (o_2 + 2) none) = some (Value.int IntKind.i64 x_4)) ∧
 ∃ (x_5 : Int),
 gimp (!x && x_2 != 0) (w.drew.cell? (Addr.mk b (o + 34) none) = some (Value.int IntKind.i64 x_5)) ∧
 R (Ending.returned (Value.bool (!x && x_2 != 0 && decide (x_4 < x_5)))) w.drew
theorem vc_reasC (b : Nat) (o : Nat) (b1 : Nat) (o1 : Nat) (w : World) (R : Ending → World → Prop) (h : VC_reasC b o b1 o1 w R) : Calls Tryd.prog 40 ([Value.pointer
    (some { block := b, off := o }),
  Value.pointer (some { block := b1, off := o1 })] : List Value).toArray w R := by
  have e : execR { P := Tryd.prog, loops := [], pur := pur1, tails := [], joins := [], boxes := [] } Tryd.f40.results.toList R (Tryd.f40.body.getD .skip) (initF [Value.pointer
    (some { block := b, off := o }),
  Value.pointer
    (some
      { block := b1,
        off :=
          o1 })] (Tryd.f40.ntmps - ([Value.pointer (some { block := b, off := o }),
  Value.pointer (some { block := b1, off := o1 })] : List Value).length)) w = VC_reasC b o b1 o1 w R := by kernel_rfl
  have hb : Tryd.f40.body = some (Tryd.f40.body.getD .skip) := by kernel_rfl
  exact calls_of_exec' (P := Tryd.prog) (fn := Tryd.f40) (c := Tryd.f40.body.getD .skip) (args := [Value.pointer
    (some { block := b, off := o }),
  Value.pointer (some { block := b1, off := o1 })]) (w := w) (R := R) pur1_ok Tryd.func40 hb e h

def VC_reasD (b : Nat) (o : Nat) (b1 : Nat) (o1 : Nat) (w : World) (R : Ending → World → Prop) : Prop :=
 ∃ (x : Bool),
 w.drew.cell? (Addr.mk b (o + 35) none) = some (Value.bool x) ∧
 ∃ (x_1 : Option Addr),
 gimp (!x) (w.drew.cell? (Addr.mk b1 o1 none) = some (Value.pointer x_1)) ∧
 nn (!x) x_1 fun (b_1 o_1 : Nat) =>
 ∃ (p : Option Addr),
 ∃ (n : Nat),
 ∃ (c : Nat),
 gimp (!x) (w.drew.cell? (Addr.mk b_1 (o_1 + 4) none) = some (Value.slice p n c)) ∧
 ∃ (x_2 : ByteArray),
 gimp (!x && decide ((↑n : Int) > 0)) (w.drew.cell? (Addr.mk b (o + 33) none) = some (Value.string x_2)) ∧
 ∃ (x_3 : Option Addr),
 gimp (!x && decide ((↑n : Int) > 0) && !x_2.toList == [])
 (w.drew.cell? (Addr.mk b1 o1 none) = some (Value.pointer x_3)) ∧
 nn (!x && decide ((↑n : Int) > 0) && !x_2.toList == []) x_3 fun (b_2 o_2 : Nat) =>
 ∃ (p : Option Addr),
 ∃ (n_1 : Nat),
 ∃ (c : Nat),
 gimp (!x && decide ((↑n : Int) > 0) && !x_2.toList == [])
 (w.drew.cell? (Addr.mk b_2 (o_2 + 4) none) = some (Value.slice p n_1 c)) ∧
 ∃ (x_4 : ByteArray),
 gimp (!x && decide ((↑n : Int) > 0) && !x_2.toList == [])
 (w.drew.cell? (Addr.mk b (o + 33) none) = some (Value.string x_4)) ∧
 bsp (!x && decide ((↑n : Int) > 0) && !x_2.toList == [])
 (CallsS Tryd.prog 42 #[Value.slice p n_1 c, Value.string x_4] w.drew
 fun (e : Ending) (w' : World) =>
 ∃ (x : Bool),
 e = Ending.returned (Value.bool x) ∧ R (Ending.returned (Value.bool (true && !x))) w')
 (R (Ending.returned (Value.bool false)) w.drew)
theorem vc_reasD (b : Nat) (o : Nat) (b1 : Nat) (o1 : Nat) (w : World) (R : Ending → World → Prop) (h : VC_reasD b o b1 o1 w R) : Calls Tryd.prog 41 ([Value.pointer
    (some { block := b, off := o }),
  Value.pointer (some { block := b1, off := o1 })] : List Value).toArray w R := by
  have e : execR { P := Tryd.prog, loops := [], pur := pur1, tails := [(1, 25)], joins := [], boxes := [] } Tryd.f41.results.toList R (Tryd.f41.body.getD .skip) (initF [Value.pointer
    (some { block := b, off := o }),
  Value.pointer
    (some
      { block := b1,
        off :=
          o1 })] (Tryd.f41.ntmps - ([Value.pointer (some { block := b, off := o }),
  Value.pointer (some { block := b1, off := o1 })] : List Value).length)) w = VC_reasD b o b1 o1 w R := by kernel_rfl
  have hb : Tryd.f41.body = some (Tryd.f41.body.getD .skip) := by kernel_rfl
  exact calls_of_exec' (P := Tryd.prog) (fn := Tryd.f41) (c := Tryd.f41.body.getD .skip) (args := [Value.pointer
    (some { block := b, off := o }),
  Value.pointer (some { block := b1, off := o1 })]) (w := w) (R := R) pur1_ok Tryd.func41 hb e h

def VC_reason (q : Option Addr) (a : Array Value) (w : World) (R : Ending → World → Prop) : Prop :=
 ∀ (n : Nat) (w1 : World),
 NewB w (Obj.cells #[Value.pointer q] 31) n w1 →
 ∀ (n_1 : Nat) (w1_1 : World),
 NewB w1 (Obj.cells a 39) n_1 w1_1 →
 ∃ (x : Option Addr),
 w1_1.cell? (Addr.mk n 0 none) = some (Value.pointer x) ∧
 bsp x.isNone (R (Ending.returned (Value.int IntKind.i64 1)) w1_1)
 (∀ (n_2 : Nat) (w1 : World),
 NewB w1_1
 (Obj.cells
 #[Value.nilFunc,
 Value.func (Fn.func 37) #[]
 #[Value.pointer (some (Addr.mk n_1 0 none)), Value.pointer (some (Addr.mk n 0 none))],
 Value.func (Fn.func 38) #[]
 #[Value.pointer (some (Addr.mk n_1 0 none)), Value.pointer (some (Addr.mk n 0 none))],
 Value.func (Fn.func 40) #[]
 #[Value.pointer (some (Addr.mk n_1 0 none)), Value.pointer (some (Addr.mk n 0 none))],
 Value.func (Fn.func 41) #[]
 #[Value.pointer (some (Addr.mk n_1 0 none)), Value.pointer (some (Addr.mk n 0 none))]]
 35)
 n_2 w1 →
 ∃ (I : List Value → World → Prop),
 ∃ (m : List Value → World → Nat),
 I [Value.int IntKind.i64 0] w1 ∧
 ∀ (x : Int) (w' : World),
 I [Value.int IntKind.i64 x] w' →
 bsp (decide (x < (↑5 : Int)))
 ((0 ≤ x ∧ x < (↑5 : Int)) ∧
 ∃ (x_1 : Value),
 w'.cell? (Addr.mk n_2 (0 + x.toNat) none) = some x_1 ∧
 bsp (x != 0)
 (∃ (f : Nat),
 ∃ (a : Array Value),
 ∃ (b : Array Value),
 x_1 = Value.func (Fn.func f) a b ∧
 okFn Tryd.prog f = true ∧
 CallsS Tryd.prog f (appA a [] b) w' fun (e : Ending) (w'_1 : World) =>
 ∃ (x_2 : Bool),
 e = Ending.returned (Value.bool x_2) ∧
 bsp (true && x_2) (R (Ending.returned (Value.int IntKind.i64 x)) w'_1)
 (I [Value.int IntKind.i64 (IntKind.i64.wrap (x + 1))] w'_1 ∧
 m [Value.int IntKind.i64 (IntKind.i64.wrap (x + 1))] w'_1 <
 m [Value.int IntKind.i64 x] w'))
 (I [Value.int IntKind.i64 (IntKind.i64.wrap (x + 1))] w' ∧
 m [Value.int IntKind.i64 (IntKind.i64.wrap (x + 1))] w' < m [Value.int IntKind.i64 x] w'))
 (R (Ending.returned (Value.int IntKind.i64 0)) w'))
theorem vc_reason (q : Option Addr) (a : Array Value) (w : World) (R : Ending → World → Prop) (h : VC_reason q a w R) : Calls Tryd.prog 17 ([Value.pointer
    q,
  Value.agg a] : List Value).toArray w R := by
  have e : execR { P := Tryd.prog, loops := [(5, [(17, Ck.int IntKind.i64)])], pur := pur1, tails := [], joins := [], boxes := [] } Tryd.f17.results.toList R (Tryd.f17.body.getD .skip) (initF [Value.pointer
    q,
  Value.agg
    a] (Tryd.f17.ntmps - ([Value.pointer q, Value.agg a] : List Value).length)) w = VC_reason q a w R := by kernel_rfl
  have hb : Tryd.f17.body = some (Tryd.f17.body.getD .skip) := by kernel_rfl
  exact calls_of_exec' (P := Tryd.prog) (fn := Tryd.f17) (c := Tryd.f17.body.getD .skip) (args := [Value.pointer q,
  Value.agg a]) (w := w) (R := R) pur1_ok Tryd.func17 hb e h

def VC_due (q : Option Addr) (a : Array Value) (w : World) (R : Ending → World → Prop) : Prop :=
 ∀ (n : Nat) (w1 : World),
 NewB w (Obj.cells a 39) n w1 →
 ∃ (f : Nat → Int),
 ∃ (p : Option Addr),
 ∃ (n_1 : Nat),
 ∃ (c : Nat),
 ∃ (x : ByteArray),
 ∃ (x_1 : Int),
 ∃ (x_2 : Bool),
 ∃ (x_3 : ByteArray),
 ∃ (x_4 : Int),
 AtL w1 n 0
 (arrI IntKind.u8 f 32 0 ++ [Value.slice p n_1 c, Value.string x,
 Value.int IntKind.i64 x_1, Value.bool x_2, Value.string x_3, Value.int IntKind.i64 x_4]) ∧
 CallsS Tryd.prog 17
 #[Value.pointer q,
 Value.agg
 (arrI IntKind.u8 f 32 0 ++ [Value.slice p n_1 c, Value.string x,
 Value.int IntKind.i64 x_1, Value.bool x_2, Value.string x_3, Value.int IntKind.i64 x_4]).toArray]
 w1 fun (e : Ending) (w' : World) =>
 ∃ (x : Int),
 e = Ending.returned (Value.int IntKind.i64 x) ∧
 bsp (x != 0) (R (Ending.returned (Value.tuple #[Value.int IntKind.i64 0, Value.bool false])) w')
 (∃ (x : Int),
 w'.drew.cell? (Addr.mk n (0 + 37) none) = some (Value.int IntKind.i64 x) ∧
 nn true q fun (b o : Nat) =>
 ∃ (x_5 : Int),
 w'.drew.cell? (Addr.mk b (o + 3) none) = some (Value.int IntKind.i64 x_5) ∧
 bsp (decide (x > IntKind.i64.wrap (9223372036854775807 - x_5)))
 (R (Ending.returned (Value.tuple #[Value.int IntKind.i64 9223372036854775807, Value.bool true]))
 w'.drew)
 (∃ (x : Int),
 w'.drew.drew.cell? (Addr.mk n (0 + 37) none) = some (Value.int IntKind.i64 x) ∧
 nn true q fun (b o : Nat) =>
 ∃ (x_6 : Int),
 w'.drew.drew.cell? (Addr.mk b (o + 3) none) = some (Value.int IntKind.i64 x_6) ∧
 R
 (Ending.returned
 (Value.tuple #[Value.int IntKind.i64 (IntKind.i64.wrap (x + x_6)), Value.bool true]))
 w'.drew.drew))
theorem vc_due (q : Option Addr) (a : Array Value) (w : World) (R : Ending → World → Prop) (h : VC_due q a w R) : Calls Tryd.prog 16 ([Value.pointer
    q,
  Value.agg a] : List Value).toArray w R := by
  have e : execR { P := Tryd.prog, loops := [], pur := pur1, tails := [], joins := [], boxes := [] } Tryd.f16.results.toList R (Tryd.f16.body.getD .skip) (initF [Value.pointer
    q,
  Value.agg
    a] (Tryd.f16.ntmps - ([Value.pointer q, Value.agg a] : List Value).length)) w = VC_due q a w R := by kernel_rfl
  have hb : Tryd.f16.body = some (Tryd.f16.body.getD .skip) := by kernel_rfl
  exact calls_of_exec' (P := Tryd.prog) (fn := Tryd.f16) (c := Tryd.f16.body.getD .skip) (args := [Value.pointer q,
  Value.agg a]) (w := w) (R := R) pur1_ok Tryd.func16 hb e h

end Go.Proofs.YtcpjajjocmpkjaaDoor
