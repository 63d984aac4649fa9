/- From contracts on worlds to the given statements: the last step of a law, the listed variables' world. No condition. -/
import Derived.Test.YtcpjajjocmpkjaaGreatDoorCards
import Derived.Test.YtcpjajjocmpkjaaGreatDoorTie
import Derived.Test.YtcpjajjocmpkjaaGreatDoorZ03
import Derived.Test.YtcpjajjocmpkjaaGreatDoorZ05
import Derived.WalkKit
import Derived.ProofKit
import Derived.OpenShut
import Derived.Shelf.Vars
import Derived.Deep.Slices
import Derived.Deep.DeepHandedRow
import Derived.Lib.LaidTab
import Derived.Lib.Bytealg
import Derived.Sort.Statements
import Derived.Test.YtcpjajjocmpkjaaGreatDoorProg
import Derived.Test.YtcpjajjocmpkjaaGreatDoorZ02
import Derived.Test.YtcpjajjocmpkjaaGreatDoorZ04
import Derived.KernelRfl
import Derived.Lib.BytesEntry
import Derived.Sort.Grow
import Derived.Shelf.SlGeneric
import Derived.Shelf.SlSortCmp.NoneTotal
import Derived.Ground.SlsfProg
namespace Go.Proofs.YtcpjajjocmpkjaaGreatDoor
open Go.ChangeShapes Go.WideShapes Go.ChangeAt Go.RowKit Go.Deep

theorem own : ownKnob Tryz.prog.godebug = none := by kernel_rfl
/-- The library's variable holds a number. -/
theorem gw_of {w : World} (h : w.ShapedOpen Tryz.prog) : GW w := cell_of_shapedOpen_int (zero := #[.int .i64 0]) (t := 3) h (of_decide_eq_true (by kernel_rfl)) (by kernel_rfl) rfl (by kernel_rfl) (by kernel_rfl) Tryz.underlying3
theorem trodAll_kept {H : Type} {enc : TypeId × Value → H} {P : Program} {w w' : World} (hk : K0 w w') {base : Nat} {sp : Nat → Bool} : ∀ (ts : List TypeId) (vs : List Value) (ds : List (DataW H)) (ps : List MemPlace),
    (∀ t ∈ ts, posT P 12 t = true) → DataW.TrodAll enc P w base (fun _ => true) true ts vs ds ps → (∀ p ∈ ps, sp p.block = true) → DataW.TrodAll enc P w' base sp true ts vs ds ps
  | [], [], [], ps, _, h, _ => h
  | t :: ts, v :: vs, d :: ds, ps, ht, ⟨p, q, ⟨fuel, h1⟩, h2, h3⟩, hsp => by
    subst h3
    exact ⟨p, q, ⟨fuel, trod_kept hk fuel t 12 _ _ (ht t (by simp)) h1 (fun x hx => hsp x (by simp [hx]))⟩, trodAll_kept hk ts vs ds q (fun u hu => ht u (by simp [hu])) h2 (fun x hx => hsp x (by simp [hx])), rfl⟩
  | [], [], _ :: _, _, _, h, _ => h.elim
  | [], _ :: _, _, _, _, h, _ => h.elim
  | _ :: _, [], _, _, _, h, _ => h.elim
  | _ :: _, _ :: _, [], _, _, h, _ => h.elim
section
variable {H : Type} {enc : TypeId × Value → H} {P : Program}
theorem post_of_k0 {f : Func} {s : ChangeSpec} {apart fresh handsOn again : Bool} {W W' : World} {args : Array Value} {ds gs : List (DataW H)} {before : List MemPlace} (hpos : f.params.toList.all (posT P 12) = true) {tb : TypeId} (htb : P.underlying tb = some .bool) (hrt : f.resultTypes = #[tb])
    (hW : DataW.Whole enc P f.params.toList s.vars apart W args.toList ds gs before) (hvars : s.vars = [])
    (hfn : (s.fn H (ds ++ gs)).results = [.lit (.bool true)] ∧ (s.fn H (ds ++ gs)).args = ds ∧ (s.fn H (ds ++ gs)).vars = []) (hk : K0 W W') :
    s.post enc P f apart fresh handsOn again W args (.bool true) W' := by
  have hb : Below W.heap.size W W' := hk.below
  have hW0 := hW
  obtain ⟨p, q, hA, hV, hps, hz, hn⟩ := hW
  rw [hvars] at hV
  have hq : gs = [] ∧ q = [] := by
    cases gs with
    | nil => exact ⟨rfl, hV⟩
    | cons g r => exact hV.elim
  obtain ⟨rfl, rfl⟩ := hq
  rw [List.append_nil] at hps
  subst hps
  have hlt : ∀ x ∈ before, x.block < W.heap.size := fun x hx => hW0.lt x hx
  have hold : ∀ x ∈ before, (fun b => decide (b < W.heap.size)) x.block = true := fun x hx => by simpa using hlt x hx
  have hargs : ∀ sp : Nat → Bool, (∀ x ∈ before, sp x.block = true) → DataW.TrodAll enc P W' 0 sp true f.params.toList args.toList (s.fn H (ds ++ [])).args before := fun sp hsp => by
    rw [hfn.2.1]; exact trodAll_kept hk _ _ _ _ (fun t ht => List.all_eq_true.1 hpos t ht) hA hsp
  have hvs : ∀ sp : Nat → Bool, DataW.TrodVars enc P W' sp s.vars (s.fn H (ds ++ [])).vars [] := fun sp => by rw [hvars, hfn.2.2]; exact rfl
  have hres : ∀ (b : Nat) (sp : Nat → Bool) (hd : Bool), DataW.TrodAll enc P W' b sp hd f.resultTypes.toList ((Value.bool true).resultList f.resultTypes.size) (s.fn H (ds ++ [])).results [] := fun b sp hd => by
    rw [hfn.1, hrt]; exact trodAll_cons_mk (shut_bool htb _) trodAll_mk0
  refine ⟨ds, [], before, [], before, [], hW0, hres _ _ _, hargs _ hold, hvs _, World.keptBut_mono (fun x hx => ⟨hx, Or.inr (by simpa using hx)⟩) (hb.frame (· ∈ before)), fun _ => ?_⟩
  refine ⟨?_, _, _, ([] ++ before) ++ [], ⟨[] ++ before, [], trodAll_append (hargs _ (fun _ _ => rfl)) (hres _ _ _), hvs _, rfl, ?_, ?_⟩, ?_⟩
  · intro j t r hj hr
    rw [hrt] at hj hr
    have : j = 0 := by
      rcases Nat.eq_zero_or_pos j with h | h
      · exact h
      · simp [Array.getElem?_eq_none (xs := #[tb]) (i := j) (by simp; omega)] at hj
    subst this
    simp at hj
    subst hj
    have : r = .bool true := by simpa [Value.resultList] using hr.symm
    subst this
    exact okWide_bool_mk htb _
  · intro b off hp
    have hin : MemPlace.cell b off ∈ before := by simpa using hp
    rw [hb.frozen (hlt _ hin)]
    exact hz b off hin
  · intro ha
    have := hn ha
    simpa using this
  · intro x hx _
    simpa using hx
end

/-! ### A world that holds the listed tables -/
def flatD {H : Type} : Nat → DataW H → List Value
  | 0, _ => []
  | _ + 1, .lit (.int k n) => [.int k n]
  | n + 1, .agg l => l.flatMap (flatD n)
  | _ + 1, _ => []
def setRow (cs : List Value) : Obj → Obj
  | .cells _ t frozen => .cells cs.toArray t frozen
  | o => o
noncomputable def laidWorld (os : Os) : World :=
  { World.holding Tryz.prog os ⟨#[], #[], []⟩ with heap := ((World.holding Tryz.prog os ⟨#[], #[], []⟩).heap.modify 1 (setRow (flatD 3 Rows.laid_unicode_utf8_first))).modify 2 (setRow (flatD 3 (Rows.laid_unicode_utf8_acceptRanges (H := Unit)))) }

end Go.Proofs.YtcpjajjocmpkjaaGreatDoor

/- The contracts of wildmat's Len, Verdict and Selects, by plain functions. -/
namespace Go.Proofs.YtcpjajjocmpkjaaGreatDoor
open Go.RowKit

theorem entsS_ok : ∀ (ps : List ByteArray) (a : Int) (acc es : List Ent), entsS ps a acc = .inl es → acc.length ≤ 64 → (∀ e ∈ acc, e.els.length ≤ 80) → es.length ≤ 64 ∧ ∀ e ∈ es, e.els.length ≤ 80
  | [], a, acc, es, h, h1, h2 => by simp [entsS] at h; subst h; exact ⟨h1, h2⟩
  | x :: r, a, acc, es, h, h1, h2 => by
    unfold entsS at h
    split at h
    · cases h
    · split at h
      · cases h
      · rename_i els hc
        refine entsS_ok r _ _ es h (by simp; omega) (fun e he => ?_)
        rcases List.mem_append.1 he with he | he
        · exact h2 e he
        · simp at he; subst he; exact compileR_len hc
theorem listR_ok {s : ByteArray} {es : List Ent} (h : listR s = .inl es) : es.length ≤ 64 ∧ ∀ e ∈ es, e.els.length ≤ 80 := by
  unfold listR at h
  split at h
  · cases h
  · exact entsS_ok _ _ _ _ h (by simp) (by simp)
theorem ListR.len {D : Nat → Prop} {w : World} {b : Nat} {s : ByteArray} {es : List Ent} (h : ListR D w b s es) : ∃ p c, w.cell? ⟨b, 1, none⟩ = some (.slice p es.length c) := by
  obtain ⟨p, n, c, bs, h1, h2, h3, h4, h5, h6⟩ := h
  have hn := h3.1
  rw [entC_length bs es h5] at hn
  obtain rfl : n = es.length := by omega
  exact ⟨p, c, cell_at h1 rfl⟩
theorem len_any {D : Nat → Prop} {w : World} {b : Nat} {s : ByteArray} {es : List Ent} (h : ListR D w b s es) :
    Calls Tryz.prog 78 #[.pointer (some ⟨b, 0, none⟩)] w fun e w' => e = .returned (.int .i64 es.length) ∧ w' = w := by
  obtain ⟨p, c, hc⟩ := h.len
  exact vc_len b 0 w _ ⟨p, es.length, c, by rw [Nat.zero_add]; exact hc, rfl, rfl⟩
/-- The verdict of a list on a name. -/
def verd (es : List Ent) (s : ByteArray) : Int := es.foldl (fun a e => if matchB e.els s = true then e.v else a) 0
theorem verd_snoc (es : List Ent) (e : Ent) (s : ByteArray) : verd (es ++ [e]) s = if matchB e.els s = true then e.v else verd es s := by simp [verd]
/-- The cells of an entry. -/
theorem ListR.ent {D : Nat → Prop} {w : World} {b : Nat} {s : ByteArray} {es : List Ent} (h : ListR D w b s es) {k : Nat} {e : Ent} (hk : es[k]? = some e) :
    ∃ g c b', w.cell? ⟨b, 1, none⟩ = some (.slice (some ⟨g, 0, none⟩) es.length c) ∧ w.cell? ⟨g, 0 + k * 2, none⟩ = some (.pointer (some ⟨b', 0, none⟩)) ∧ w.cell? ⟨g, 0 + k * 2 + 1, none⟩ = some (.int .i64 e.v) ∧ PatR D w b' e.t e.els := by
  obtain ⟨p, n, c, bs, h1, h2, h3, h4, h5, h6⟩ := h
  have hlt : k < es.length := (List.getElem?_eq_some_iff.1 hk).1
  have hn := h3.1
  rw [entC_length bs es h5] at hn
  obtain rfl : n = es.length := by omega
  obtain ⟨b', hb'⟩ : ∃ b', bs[k]? = some b' := ⟨_, List.getElem?_eq_getElem (by omega)⟩
  obtain ⟨g1, g2⟩ := entC_get bs es k b' e hb' hk
  rcases h3.2 with ⟨_, h0⟩ | ⟨g, cap, cur, hv, _, hg, hnc, _, hsz, ht⟩
  · omega
  · simp only [Value.slice.injEq, true_and] at hv
    have key : ∀ i v, i < es.length * 2 → (entC bs es)[i]? = some v → w.cell? ⟨g, i, none⟩ = some v := fun i v hi hv => by
      rw [cell_block hg]
      rw [← ht, List.getElem?_take, if_pos hi] at hv
      simpa using hv
    obtain ⟨rfl, rfl⟩ := hv
    refine ⟨g, c, b', cell_at h1 rfl, ?_, ?_, h6 k b' e hb' hk⟩
    · rw [Nat.zero_add]; exact key _ _ (by omega) g1
    · rw [Nat.zero_add]; exact key _ _ (by omega) g2
theorem verdict_any {D : Nat → Prop} {w : World} {b : Nat} {t : ByteArray} {es : List Ent} (h : ListR D w b t es) (h64 : es.length ≤ 64) (h80 : ∀ e ∈ es, e.els.length ≤ 80) (s : ByteArray) (hs : s.size ≤ 9223372036854775807) :
    Calls Tryz.prog 58 #[.pointer (some ⟨b, 0, none⟩), .string s] w fun e w' => e = .returned (.int .i64 (verd es s)) ∧ K0 w w' := by
  refine vc_verdict b 0 s w _ ⟨(len_any h).mono fun e w' ⟨he, hw⟩ => ⟨_, he, ?_⟩⟩
  subst hw
  rw [wr64 (by omega) (by omega)]
  refine ⟨fun vs w2 => ∃ k : Nat, vs = [.int .i64 ((k : Int) - 1)] ∧ k ≤ es.length ∧ verd es s = verd (es.take k) s ∧ K0 w' w2, fun vs _ => (match vs with | [.int _ x] => (x + 1).toNat | _ => 0),
    ⟨es.length, rfl, Nat.le_refl _, by rw [List.take_length], .refl _ _⟩, fun x w2 ⟨k, hv, hk, hS, hw2⟩ => ?_⟩
  simp only [List.cons.injEq, Value.int.injEq, true_and, and_true] at hv
  subst hv
  have h2 := h.kp hw2 (fun _ _ _ h => h)
  refine bsp_intro (fun hge => ?_) (fun hlt => ?_)
  · have hge : 1 ≤ k := by simp at hge; omega
    obtain ⟨j, rfl⟩ : ∃ j, k = j + 1 := ⟨k - 1, by omega⟩
    have ej : ((j + 1 : Nat) : Int) - 1 = (j : Int) := by omega
    rw [ej]
    have ej2 : (j : Int).toNat = j := by omega
    rw [ej2]
    obtain ⟨y, hy⟩ : ∃ y, es[j]? = some y := ⟨_, List.getElem?_eq_getElem (by omega)⟩
    have htk : es.take (j + 1) = es.take j ++ [y] := by rw [List.take_add_one, hy]; rfl
    rw [htk, verd_snoc] at hS
    obtain ⟨g, c, b', c1, c2, c3, hp⟩ := h2.ent hy
    refine ⟨_, _, _, by rw [Nat.zero_add]; exact c1, ?_⟩
    show (0 ≤ (j : Int) ∧ (j : Int) < (es.length : Int)) ∧ _
    refine ⟨⟨by omega, by omega⟩, _, c2, ⟨(match_any hp (by have := h80 y (List.mem_of_getElem? hy); omega) s hs).mono fun e w3 ⟨he, hk3⟩ => ⟨_, he, ?_⟩⟩⟩
    have h3 := h2.kp hk3 (fun _ _ _ h => h)
    refine bsp_intro (fun hm => ?_) (fun hm => ?_)
    · obtain ⟨g, c, b', c1, c2, c3, hp⟩ := h3.ent hy
      refine ⟨_, _, _, by rw [Nat.zero_add]; exact c1, ?_⟩
      show (0 ≤ (j : Int) ∧ (j : Int) < (es.length : Int)) ∧ _
      refine ⟨⟨by omega, by omega⟩, _, c3, ?_, hw2.trans hk3⟩
      rw [hS, if_pos hm]
    · rw [if_neg (by rw [hm]; decide)] at hS
      rw [wr64 (by omega) (by omega)]
      exact ⟨⟨j, rfl, by omega, hS, hw2.trans hk3⟩, by simp⟩
  · have : k = 0 := by simp at hlt; omega
    subst this
    refine ⟨?_, hw2⟩
    rw [hS]
    rfl

/-- Strings that lie one behind the other. -/
def StrP (w : World) (p : Option Addr) (zs : List ByteArray) : Prop := ∀ j z, zs[j]? = some z → ∃ b o, p = some ⟨b, o, none⟩ ∧ w.cell? ⟨b, o + j, none⟩ = some (.string z)
theorem StrP.kp {M : Nat → Prop} {w w' : World} {p : Option Addr} {zs : List ByteArray} (h : StrP w p zs) (hk : Kp M w w') (hm : ∀ b o, p = some ⟨b, o, none⟩ → ¬ M b) : StrP w' p zs := fun j z hj => by
  obtain ⟨b, o, hp, hc⟩ := h j z hj
  exact ⟨b, o, hp, hk.cell' hc (hm b o hp)⟩
/-- A list accepts one of several names and poisons none of them. -/
def selB (es : List Ent) (zs : List ByteArray) : Bool := zs.all (fun z => !(verd es z == 3)) && zs.any (fun z => verd es z == 1)
theorem selects_any {D : Nat → Prop} {w : World} {b : Nat} {t : ByteArray} {es : List Ent} (h : ListR D w b t es) (h64 : es.length ≤ 64) (h80 : ∀ e ∈ es, e.els.length ≤ 80) (p : Option Addr) (c : Nat) (zs : List ByteArray) (hz : StrP w p zs) (hn : zs.length ≤ 9223372036854775807) (hs : ∀ z ∈ zs, z.size ≤ 9223372036854775807) :
    Calls Tryz.prog 41 #[.pointer (some ⟨b, 0, none⟩), .slice p zs.length c] w fun e w' => e = .returned (.bool (selB es zs)) ∧ K0 w w' := by
  refine vc_selects b 0 p zs.length c w _ ?_
  refine ⟨fun vs w2 => ∃ (k : Nat), vs = [.int .i64 k, .bool ((zs.take k).any fun z => verd es z == 1)] ∧ k ≤ zs.length ∧ (zs.take k).all (fun z => !(verd es z == 3)) = true ∧ K0 w w2, fun vs _ => (match vs with | .int _ x :: _ => zs.length - x.toNat | _ => 0),
    ⟨0, rfl, by omega, rfl, .refl _ _⟩, fun x x_1 w2 ⟨k, hv, hk, hall, hw2⟩ => ?_⟩
  simp only [List.cons.injEq, Value.int.injEq, true_and, and_true, Value.bool.injEq] at hv
  obtain ⟨rfl, rfl⟩ := hv
  refine bsp_intro (fun hlt => ?_) (fun hge => ?_)
  · have hlt : k < zs.length := by simpa using hlt
    obtain ⟨z, hzk⟩ : ∃ z, zs[k]? = some z := ⟨_, List.getElem?_eq_getElem hlt⟩
    have htk : zs.take (k + 1) = zs.take k ++ [z] := by rw [List.take_add_one, hzk]; rfl
    obtain ⟨b1, o1, rfl, hc⟩ := hz.kp hw2 (fun _ _ _ h => h) k z hzk
    have e0 : (k : Int).toNat = k := by omega
    show (0 ≤ (k : Int) ∧ (k : Int) < (zs.length : Int)) ∧ _
    refine ⟨⟨by omega, by omega⟩, z, by rw [e0]; exact hc, ?_⟩
    refine ⟨(verdict_any (h.kp hw2 (fun _ _ _ h => h)) h64 h80 z (hs z (List.mem_of_getElem? hzk))).mono fun e w3 ⟨he, hk3⟩ => ⟨_, he, ?_⟩⟩
    rw [wr64 (x := (k : Int) + 1) (by omega) (by omega)]
    refine bsp_intro (fun h1 => ⟨⟨k + 1, ?_, by omega, ?_, hw2.trans hk3⟩, by simp; omega⟩) (fun h1 => bsp_intro (fun h3 => ⟨?_, hw2.trans hk3⟩) (fun h3 => ⟨⟨k + 1, ?_, by omega, ?_, hw2.trans hk3⟩, by simp; omega⟩))
    · rw [htk, List.any_append]; simp [h1]
    · have h1' : verd es z = 1 := by simpa using h1
      rw [htk, List.all_append, hall]; simp [h1']
    · have : zs.all (fun z => !(verd es z == 3)) = false := by
        rw [List.all_eq_false]
        exact ⟨z, List.mem_of_getElem? hzk, by simp [h3]⟩
      simp [selB, this]
    · rw [htk, List.any_append]; simp [h1]
    · rw [htk, List.all_append, hall]; simp [h3]
  · have hge : ¬ k < zs.length := by simpa using hge
    obtain rfl : k = zs.length := by omega
    rw [List.take_length] at hall ⊢
    exact ⟨by simp [selB, hall], hw2⟩

end Go.Proofs.YtcpjajjocmpkjaaGreatDoor

/- What an argument that was read gives: its cells, strings of slices, bytes of arrays. Generic but for the types' numbers. No condition. -/
namespace Go.Proofs.YtcpjajjocmpkjaaGreatDoor
open Go.ChangeShapes Go.WideShapes Go.ChangeAt Go.RowKit Go.Deep

/-- Cells that were read as a value of a type. -/
def Rd {H : Type} (enc : TypeId × Value → H) (P : Program) (W : World) (t : TypeId) (cs : List Value) : Prop := ∃ (fuel : Nat) (x : DataW H × List MemPlace), DataW.trod enc P W 0 (fun _ => true) true fuel t cs = some x
section
variable {H : Type} {enc : TypeId × Value → H} {P : Program} {W : World} {t : TypeId} {cs : List Value}
theorem Rd.of {v : Value} {d : DataW H} {ps : List MemPlace} (h : DataW.Trod enc P W 0 (fun _ => true) true t v d ps) : Rd enc P W t v.cells.toList := by
  obtain ⟨fuel, h⟩ := h; exact ⟨fuel, _, h⟩
theorem Rd.field {fs : Array Field} (h : Rd enc P W t cs) (ht : P.underlying t = some (.struct fs)) {i : Nat} {f : Field} (hf : fs[i]? = some f) : Rd enc P W f.type ((cs.drop f.offset).take (P.cellsOf f.type)) := by
  obtain ⟨fuel, x, h⟩ := h
  obtain ⟨xs, n, _, _, _, hl, hg⟩ := DataW.trod_struct ht h
  have hi : i < xs.length := by rw [hl]; exact (Array.getElem?_eq_some_iff.1 hf).1
  exact ⟨n, xs[i], by rw [hg i f hf, List.getElem?_eq_getElem hi]⟩
theorem Rd.int {k : IntKind} (h : Rd enc P W t cs) (ht : P.underlying t = some (.int k)) : ∃ n, cs = [.int k n] ∧ (Lit.int k n).wf = true := by
  obtain ⟨fuel, x, h⟩ := h
  obtain ⟨n, h1, _, h2⟩ := DataW.trod_int ht h
  exact ⟨n, h1, h2⟩
theorem Rd.bool (h : Rd enc P W t cs) (ht : P.underlying t = some .bool) : ∃ b, cs = [.bool b] := by
  obtain ⟨fuel, x, h⟩ := h
  obtain ⟨b, h1, _⟩ := DataW.trod_bool ht h
  exact ⟨b, h1⟩
theorem Rd.str (h : Rd enc P W t cs) (ht : P.underlying t = some .string) : ∃ s : ByteArray, cs = [.string s] ∧ s.size ≤ 9223372036854775807 := by
  obtain ⟨fuel, x, h⟩ := h
  obtain ⟨s, h1, _, h2⟩ := DataW.trod_string ht h
  exact ⟨s, h1, h2⟩
/-- A slice that was read: its elements. -/
theorem Rd.slice {e : TypeId} (h : Rd enc P W t cs) (ht : P.underlying t = some (.slice e)) (hp : 0 < P.cellsOf e) : ∃ (p : Option Addr) (n c : Nat), cs = [.slice p n c] ∧ n ≤ c ∧ n ≤ 9223372036854775807 ∧
    ∀ i, i < n → ∃ (b o : Nat) (cs' : List Value), p = some ⟨b, o, none⟩ ∧ cs'.length = P.cellsOf e ∧ (∀ j v, cs'[j]? = some v → W.cell? ⟨b, o + i * P.cellsOf e + j, none⟩ = some v) ∧ Rd enc P W e cs' := by
  obtain ⟨fuel, x, h⟩ := h
  rcases open_slice ht h with ⟨h0, _⟩ | ⟨a, len, cap, m, nn, D, Pl, hcs, hb, hl, hm, hmm, hx, hi⟩
  · exact ⟨none, 0, 0, h0, by omega, by omega, fun i hi => by omega⟩
  · refine ⟨some a, len, cap, hcs, hl, by unfold maxLen at hm; omega, fun i hilt => ?_⟩
    have hmc : m = cap := by rw [hmm]; rfl
    obtain ⟨cs', hc, ht'⟩ := hi i (by omega)
    obtain ⟨_, hlen, hat⟩ := World.cells?_some hc
    have hspot : a.spot = none := by
      obtain ⟨cs0, hc0, _⟩ := hi 0 (by omega)
      obtain ⟨_, hl0, ha0⟩ := World.cells?_some hc0
      have h00 := ha0 0 hp
      rw [List.getElem?_eq_getElem (by omega)] at h00
      have := World.cell?_spot h00
      simpa [Addr.add] using this
    obtain ⟨b, o, sp⟩ := a
    simp only at hspot
    subst hspot
    refine ⟨b, o, cs', rfl, hlen, fun j v hj => ?_, nn, _, ht'⟩
    have hjl : j < P.cellsOf e := by have := (List.getElem?_eq_some_iff.1 hj).1; omega
    have := hat j hjl
    rw [addr_add2, hj] at this
    exact this
/-- A slice of strings that was read. -/
theorem Rd.strs {e : TypeId} (h : Rd enc P W t cs) (ht : P.underlying t = some (.slice e)) (he : P.underlying e = some .string) (h1 : P.cellsOf e = 1) : ∃ (p : Option Addr) (zs : List ByteArray) (c : Nat), cs = [.slice p zs.length c] ∧ zs.length ≤ c ∧ StrP W p zs ∧ ∀ z ∈ zs, z.size ≤ 9223372036854775807 := by
  obtain ⟨p, n, c, hcs, hnc, _, hel⟩ := h.slice ht (by omega)
  have key : ∀ i, i < n → ∃ z : ByteArray, z.size ≤ 9223372036854775807 ∧ ∃ b o, p = some ⟨b, o, none⟩ ∧ W.cell? ⟨b, o + i, none⟩ = some (.string z) := fun i hi => by
    obtain ⟨b, o, cs', hp, hl, hc, hr⟩ := hel i hi
    obtain ⟨z, rfl, hz⟩ := hr.str he
    have := hc 0 _ rfl
    rw [h1] at this
    exact ⟨z, hz, b, o, hp, by simpa using this⟩
  have hex : ∃ g : Nat → ByteArray, ∀ i, i < n → (g i).size ≤ 9223372036854775807 ∧ ∃ b o, p = some ⟨b, o, none⟩ ∧ W.cell? ⟨b, o + i, none⟩ = some (.string (g i)) := by
    refine ⟨fun i => if h : i < n then Classical.choose (key i h) else ByteArray.empty, fun i hi => ?_⟩
    simp only [hi, dif_pos]
    exact Classical.choose_spec (key i hi)
  obtain ⟨g, hg⟩ := hex
  refine ⟨p, (List.range n).map g, c, by simpa using hcs, by simpa using hnc, fun j z hj => ?_, fun z hz => ?_⟩
  · rw [List.getElem?_map] at hj
    rcases Nat.lt_or_ge j n with h | h
    · simp [h] at hj
      subst hj
      exact (hg j h).2
    · simp [h] at hj
  · obtain ⟨i, hi, rfl⟩ := List.mem_map.1 hz
    exact (hg i (List.mem_range.1 hi)).1
theorem arrI_ext (k : IntKind) (f : Nat → Int) : ∀ (n i : Nat) (cs : List Value), cs.length = n → (∀ j, j < n → cs[j]? = some (.int k (f (i + j)))) → cs = arrI k f n i
  | 0, i, [], _, _ => rfl
  | 0, i, _ :: _, h, _ => by simp at h
  | n + 1, i, [], h, _ => by simp at h
  | n + 1, i, c :: cs, h, hc => by
    have h0 := hc 0 (by omega)
    simp at h0
    simp only [arrI]
    rw [h0, ← arrI_ext k f n (i + 1) cs (by simpa using h) (fun j hj => by
      have := hc (j + 1) (by omega)
      rw [show i + 1 + j = i + (j + 1) by omega]
      simpa using this)]
/-- An array of numbers that was read. -/
theorem Rd.arr {n : Nat} {e : TypeId} {k : IntKind} (h : Rd enc P W t cs) (ht : P.underlying t = some (.array n e)) (he : P.underlying e = some (.int k)) (h1 : P.cellsOf e = 1) (hn : P.cellsOf t = n) : ∃ f : Nat → Int, cs = arrI k f n 0 := by
  obtain ⟨fuel, x, h⟩ := h
  obtain ⟨xs, m, _, _, hl, hxl, hg⟩ := DataW.trod_array ht h
  rw [hn] at hl
  have key : ∀ i, i < n → ∃ z : Int, cs[i]? = some (.int k z) := fun i hi => by
    have h2 := hg i hi
    rw [h1, List.getElem?_eq_getElem (by omega)] at h2
    obtain ⟨z, hz, _⟩ := DataW.trod_int he h2
    refine ⟨z, ?_⟩
    have : (cs.drop (i * 1)).take 1 = [cs[i]'(by omega)] := by
      rw [Nat.mul_one, List.drop_eq_getElem_cons (by omega)]; rfl
    rw [this] at hz
    simp at hz
    rw [List.getElem?_eq_getElem (by omega), hz]
  refine ⟨fun i => if h : i < n then Classical.choose (key i h) else 0, arrI_ext k _ n 0 cs hl (fun j hj => ?_)⟩
  rw [Nat.zero_add]
  simp only [hj, dif_pos]
  exact Classical.choose_spec (key j hj)
end

end Go.Proofs.YtcpjajjocmpkjaaGreatDoor

/- Orders by a comparing function (plain): numbers first, then bytes. No condition. -/
namespace Go.Proofs.YtcpjajjocmpkjaaGreatDoor
open Go.Sort

/-- A comparing function. -/
structure Ord3 {α : Type} (cf : α → α → Int) : Prop where
  anti : ∀ x y, cf x y = - cf y x
  tlt : ∀ x y z, cf x y < 0 → cf y z < 0 → cf x z < 0
  el : ∀ x y z, cf x y = 0 → cf y z < 0 → cf x z < 0
  le : ∀ x y z, cf x y < 0 → cf y z = 0 → cf x z < 0
theorem Ord3.self {α : Type} {cf : α → α → Int} (h : Ord3 cf) (x : α) : cf x x = 0 := by have := h.anti x x; omega
theorem Ord3.le_trans {α : Type} {cf : α → α → Int} (h : Ord3 cf) {x y z : α} (h1 : cf x y ≤ 0) (h2 : cf y z ≤ 0) (hz : ∀ x y z, cf x y = 0 → cf y z = 0 → cf x z = 0) : cf x z ≤ 0 := by
  rcases Int.lt_or_eq_of_le h1 with a | a <;> rcases Int.lt_or_eq_of_le h2 with b | b
  · have := h.tlt x y z a b; omega
  · have := h.le x y z a b; omega
  · have := h.el x y z a b; omega
  · have := hz x y z a b; omega
theorem cb_anti : ∀ a b : List UInt8, Lib.compareBytes a b = - Lib.compareBytes b a
  | [], [] => rfl
  | [], _ :: _ => rfl
  | _ :: _, [] => rfl
  | a :: us, b :: bs => by
    have ih := cb_anti us bs
    simp only [Lib.compareBytes]
    by_cases h1 : a < b
    · have h2 : ¬ b < a := by rw [UInt8.lt_iff_toNat_lt] at h1 ⊢; omega
      rw [if_pos h1, if_neg h2, if_pos h1]
    · by_cases h2 : b < a
      · rw [if_neg h1, if_pos h2, if_pos h2]; rfl
      · rw [if_neg h1, if_neg h2, if_neg h2, if_neg h1]; exact ih
theorem cb_zero : ∀ a b : List UInt8, Lib.compareBytes a b = 0 → a = b
  | [], [], _ => rfl
  | [], _ :: _, h => by simp [Lib.compareBytes] at h
  | _ :: _, [], h => by simp [Lib.compareBytes] at h
  | a :: us, b :: bs, h => by
    simp only [Lib.compareBytes] at h
    split at h
    · cases h
    · split at h
      · cases h
      · rename_i h1 h2
        have : a = b := by
          rw [UInt8.lt_iff_toNat_lt] at h1 h2
          exact UInt8.toNat_inj.1 (by omega)
        rw [this, cb_zero us bs h]
theorem cb_self (a : List UInt8) : Lib.compareBytes a a = 0 := by have := cb_anti a a; omega
theorem cb_tlt : ∀ a b c : List UInt8, Lib.compareBytes a b < 0 → Lib.compareBytes b c < 0 → Lib.compareBytes a c < 0
  | [], [], _, h, _ => by simp [Lib.compareBytes] at h
  | _ :: _, [], _, h, _ => by simp [Lib.compareBytes] at h
  | [], _ :: _, [], _, h => by simp [Lib.compareBytes] at h
  | [], _ :: _, _ :: _, _, _ => by simp [Lib.compareBytes]
  | _ :: _, _ :: _, [], _, h => by simp [Lib.compareBytes] at h
  | a :: us, b :: bs, c :: cs, h1, h2 => by
    have ih := cb_tlt us bs cs
    simp only [Lib.compareBytes] at h1 h2 ⊢
    simp only [UInt8.lt_iff_toNat_lt] at h1 h2 ⊢
    repeat' split
    all_goals first | decide | (split at h1 <;> split at h2 <;> first | omega | (split at h1 <;> first | omega | (split at h2 <;> first | omega | (apply ih <;> assumption))) | (split at h2 <;> first | omega | (apply ih <;> assumption)))
theorem cb_ord {α : Type} (f : α → List UInt8) : Ord3 fun x y => Lib.compareBytes (f x) (f y) where
  anti x y := cb_anti _ _
  tlt x y z := cb_tlt _ _ _
  el x y z h1 h2 := by have := cb_zero _ _ h1; rw [this]; exact h2
  le x y z h1 h2 := by have := cb_zero _ _ h2; rw [← this]; exact h1
theorem ci_ord {α : Type} (f : α → Int) : Ord3 fun x y => if f x < f y then (-1 : Int) else if f y < f x then 1 else 0 where
  anti x y := by split <;> split <;> omega
  tlt x y z h1 h2 := by split at h1 <;> split at h2 <;> split <;> omega
  el x y z h1 h2 := by split at h1 <;> split at h2 <;> split <;> omega
  le x y z h1 h2 := by split at h1 <;> split at h2 <;> split <;> omega
/-- One after the other. -/
theorem Ord3.thn {α : Type} {cf cg : α → α → Int} (hf : Ord3 cf) (hg : Ord3 cg) (hz : ∀ x y z, cf x y = 0 → cf y z = 0 → cf x z = 0) : Ord3 fun x y => if cf x y ≠ 0 then cf x y else cg x y where
  anti x y := by
    have h1 := hf.anti x y
    have h2 := hg.anti x y
    by_cases h : cf x y = 0
    · rw [if_neg (by omega), if_neg (by omega)]; exact h2
    · rw [if_pos h, if_pos (by omega)]; exact h1
  tlt x y z h1 h2 := by
    by_cases a : cf x y = 0
    · rw [if_neg (by omega)] at h1
      by_cases b : cf y z = 0
      · rw [if_neg (by omega)] at h2
        rw [if_neg (by have := hz x y z a b; omega)]
        exact hg.tlt x y z h1 h2
      · rw [if_pos b] at h2
        have := hf.el x y z a h2
        rw [if_pos (by omega)]; exact this
    · rw [if_pos a] at h1
      by_cases b : cf y z = 0
      · have := hf.le x y z h1 b
        rw [if_pos (by omega)]; exact this
      · rw [if_pos b] at h2
        have := hf.tlt x y z h1 h2
        rw [if_pos (by omega)]; exact this
  el x y z h1 h2 := by
    by_cases a : cf x y = 0
    · rw [if_neg (by omega)] at h1
      by_cases b : cf y z = 0
      · rw [if_neg (by omega)] at h2
        rw [if_neg (by have := hz x y z a b; omega)]
        exact hg.el x y z h1 h2
      · rw [if_pos b] at h2
        have := hf.el x y z a h2
        rw [if_pos (by omega)]; exact this
    · rw [if_pos a] at h1; omega
  le x y z h1 h2 := by
    by_cases b : cf y z = 0
    · rw [if_neg (by omega)] at h2
      by_cases a : cf x y = 0
      · rw [if_neg (by omega)] at h1
        rw [if_neg (by have := hz x y z a b; omega)]
        exact hg.le x y z h1 h2
      · rw [if_pos a] at h1
        have := hf.le x y z h1 b
        rw [if_pos (by omega)]; exact this
    · rw [if_pos b] at h2; omega
theorem Ord3.swo {α : Type} {cf : α → α → Int} (h : Ord3 cf) : SWO fun x y => decide (cf x y < 0) where
  irrefl x := by have := h.self x; simp; omega
  trans x y z h1 h2 := by simp at h1 h2 ⊢; exact h.tlt x y z h1 h2
  ntrans x y z h1 h2 := by
    simp at h1 h2 ⊢
    have a1 := h.anti x y
    have a2 := h.anti y z
    have a3 := h.anti x z
    rcases Int.lt_or_eq_of_le h1 with p | p <;> rcases Int.lt_or_eq_of_le h2 with q | q
    · have := h.tlt z y x (by omega) (by omega); omega
    · have := h.el z y x (by omega) (by omega); omega
    · have := h.le z y x (by omega) (by omega); omega
    · have b1 : cf x y = 0 := by omega
      have b2 : cf y z = 0 := by omega
      apply Classical.byContradiction
      intro hc
      have := h.le x z y (by omega) (by omega)
      omega

end Go.Proofs.YtcpjajjocmpkjaaGreatDoor

/- The formulas of functions by the symbolic evaluator, and that each gives the call's contract. Written by a program (gen.py). No condition. -/
namespace Go.Proofs.YtcpjajjocmpkjaaGreatDoor
set_option maxRecDepth 100000
set_option linter.unusedVariables false

def VC_select (q : Option Addr) (p : Option Addr) (n : Nat) (c : Nat) (now : Int) (w : World) (R : Ending → World → Prop) : Prop :=
 ∃ (I : List Value → World → Prop),
 ∃ (m : List Value → World → Nat),
 I [Value.int IntKind.i64 0, Value.slice none 0 0] w ∧
 ∀ (x : Int) (p_1 : Option Addr) (n_1 c : Nat) (w' : World),
 I [Value.int IntKind.i64 x, Value.slice p_1 n_1 c] w' →
 bsp (decide (x < (↑n : Int)))
 (nn true p fun (b o : Nat) =>
 (0 ≤ x ∧ x < (↑n : Int)) ∧
 ∃ (f : Nat → Int),
 ∃ (p : Option Addr),
 ∃ (n : Nat),
 ∃ (c_1 : Nat),
 ∃ (x_1 : ByteArray),
 ∃ (x_2 : Int),
 ∃ (x_3 : Bool),
 ∃ (x_4 : ByteArray),
 ∃ (x_5 : Int),
 AtL w' b (o + x.toNat * 38)
 (arrI IntKind.u8 f 32 0 ++ [Value.slice p n c_1, Value.string x_1,
 Value.int IntKind.i64 x_2, Value.bool x_3, Value.string x_4, Value.int IntKind.i64 x_5]) ∧
 ∀ (n_2 : Nat) (w1 : World),
 NewB w'
 (Obj.cells
 #[Value.int IntKind.u8 0, Value.int IntKind.u8 0, Value.int IntKind.u8 0, Value.int IntKind.u8 0,
 Value.int IntKind.u8 0, Value.int IntKind.u8 0, Value.int IntKind.u8 0, Value.int IntKind.u8 0,
 Value.int IntKind.u8 0, Value.int IntKind.u8 0, Value.int IntKind.u8 0, Value.int IntKind.u8 0,
 Value.int IntKind.u8 0, Value.int IntKind.u8 0, Value.int IntKind.u8 0, Value.int IntKind.u8 0,
 Value.int IntKind.u8 0, Value.int IntKind.u8 0, Value.int IntKind.u8 0, Value.int IntKind.u8 0,
 Value.int IntKind.u8 0, Value.int IntKind.u8 0, Value.int IntKind.u8 0, Value.int IntKind.u8 0,
 Value.int IntKind.u8 0, Value.int IntKind.u8 0, Value.int IntKind.u8 0, Value.int IntKind.u8 0,
 Value.int IntKind.u8 0, Value.int IntKind.u8 0, Value.int IntKind.u8 0, Value.int IntKind.u8 0,
 Value.slice none 0 0, Value.string (ByteArray.mk #[]), Value.int IntKind.i64 0, Value.bool false,
 Value.string (ByteArray.mk #[]), Value.int IntKind.i64 0]
 53)
 n_2 w1 →
 WrL w1 n_2 0 38 ∧
 ∀ (w1_1 : World),
 PutB w1 n_2 0
 (arrI IntKind.u8 f 32 0 ++ [Value.slice p n c_1,
 Value.string x_1, Value.int IntKind.i64 x_2, Value.bool x_3, Value.string x_4,
 Value.int IntKind.i64 x_5])
 w1_1 →
 ∃ (f : Nat → Int),
 ∃ (p : Option Addr),
 ∃ (n : Nat),
 ∃ (c_2 : Nat),
 ∃ (x_6 : ByteArray),
 ∃ (x_7 : Int),
 ∃ (x_8 : Bool),
 ∃ (x_9 : ByteArray),
 ∃ (x_10 : Int),
 AtL w1_1 n_2 0
 (arrI IntKind.u8 f 32 0 ++ [Value.slice p n c_2,
 Value.string x_6, Value.int IntKind.i64 x_7, Value.bool x_8, Value.string x_9,
 Value.int IntKind.i64 x_10]) ∧
 CallsS Tryz.prog 14
 #[Value.pointer q,
 Value.agg
 (arrI IntKind.u8 f 32 0 ++ [Value.slice p n c_2,
 Value.string x_6, Value.int IntKind.i64 x_7, Value.bool x_8, Value.string x_9,
 Value.int IntKind.i64 x_10]).toArray]
 w1_1 fun (e : Ending) (w'_1 : World) =>
 ∃ (x_11 : Int),
 ∃ (x_12 : Bool),
 e = Ending.returned (Value.tuple #[Value.int IntKind.i64 x_11, Value.bool x_12]) ∧
 bsp (x_12 && decide (x_11 ≤ now))
 (∃ (f : Nat → Int),
 AtL w'_1 n_2 0
 (arrI IntKind.u8 f 32 0) ∧
 ∀ (n : Nat) (w1 : World),
 NewB w'_1
 (Obj.cells
 ([Value.int IntKind.i64 x_11] ++ arrI IntKind.u8 f 32 0).toArray
 75)
 n w1 →
 ∃ (base : Nat),
 ∃ (xs : List Value),
 ∃ (news : List Value),
 w1.ownsRow base 75 33 (Value.slice p_1 n_1 c) n_1 xs ∧
 news.length = 33 ∧
 SrcP w1 (some (Addr.mk n 0 none)) news ∧
 n_1 + 1 ≤ 9223372036854775807 ∧
 (n_1 + 1) * 40 ≤ 140737488355328 ∧
 base ≤ w1.heap.size ∧
 ∀ (p' : Option Addr) (c' : Nat) (w'_2 : World),
 w'_2.ownsRow base 75 33 (Value.slice p' (n_1 + 1) c') (n_1 + 1)
 (xs ++ news) →
 w1.grownBy w'_2 (Value.slice p_1 n_1 c).ownBlock →
 I
 [Value.int IntKind.i64 (IntKind.i64.wrap (x + 1)),
 Value.slice p' (n_1 + 1) c']
 w'_2 ∧
 m
 [Value.int IntKind.i64 (IntKind.i64.wrap (x + 1)),
 Value.slice p' (n_1 + 1) c']
 w'_2 <
 m [Value.int IntKind.i64 x, Value.slice p_1 n_1 c] w')
 (I [Value.int IntKind.i64 (IntKind.i64.wrap (x + 1)), Value.slice p_1 n_1 c]
 w'_1 ∧
 m [Value.int IntKind.i64 (IntKind.i64.wrap (x + 1)), Value.slice p_1 n_1 c]
 w'_1 <
 m [Value.int IntKind.i64 x, Value.slice p_1 n_1 c] w'))
 (CallsS Tryz.prog 24 #[Value.slice p_1 n_1 c, Value.func (Fn.func 25) #[] #[]] w' fun (e : Ending) (w' : World) =>
 e = Ending.returned (Value.tuple #[]) ∧
 ∀ (n : Nat) (w1 : World),
 NewB w' (Obj.map #[] 0) n w1 →
 ∃ (I : List Value → World → Prop),
 ∃ (m : List Value → World → Nat),
 I [Value.int IntKind.i64 0, Value.slice none 0 0] w1 ∧
 ∀ (x : Int) (p : Option Addr) (n_2 c : Nat) (w' : World),
 I [Value.int IntKind.i64 x, Value.slice p n_2 c] w' →
 bsp (decide (x < (↑n_1 : Int)))
 (nn true p_1 fun (b o : Nat) =>
 (0 ≤ x ∧ x < (↑n_1 : Int)) ∧
 ∃ (x_1 : Int),
 ∃ (f : Nat → Int),
 AtL w' b (o + x.toNat * 33)
 ([Value.int IntKind.i64 x_1] ++ arrI IntKind.u8 f 32 0) ∧
 ∀ (n_3 : Nat) (w1 : World),
 NewB w'
 (Obj.cells
 #[Value.int IntKind.i64 0, Value.int IntKind.u8 0, Value.int IntKind.u8 0,
 Value.int IntKind.u8 0, Value.int IntKind.u8 0, Value.int IntKind.u8 0,
 Value.int IntKind.u8 0, Value.int IntKind.u8 0, Value.int IntKind.u8 0,
 Value.int IntKind.u8 0, Value.int IntKind.u8 0, Value.int IntKind.u8 0,
 Value.int IntKind.u8 0, Value.int IntKind.u8 0, Value.int IntKind.u8 0,
 Value.int IntKind.u8 0, Value.int IntKind.u8 0, Value.int IntKind.u8 0,
 Value.int IntKind.u8 0, Value.int IntKind.u8 0, Value.int IntKind.u8 0,
 Value.int IntKind.u8 0, Value.int IntKind.u8 0, Value.int IntKind.u8 0,
 Value.int IntKind.u8 0, Value.int IntKind.u8 0, Value.int IntKind.u8 0,
 Value.int IntKind.u8 0, Value.int IntKind.u8 0, Value.int IntKind.u8 0,
 Value.int IntKind.u8 0, Value.int IntKind.u8 0, Value.int IntKind.u8 0]
 75)
 n_3 w1 →
 WrL w1 n_3 0 33 ∧
 ∀ (w1_1 : World),
 PutB w1 n_3 0
 ([Value.int IntKind.i64 x_1] ++ arrI IntKind.u8 f 32 0)
 w1_1 →
 ∃ (f : Nat → Int),
 AtL w1_1 n_3 (0 + 1)
 [Value.int IntKind.u8 (f 0), Value.int IntKind.u8 (f (0 + 1)), Value.int IntKind.u8 (f 2),
 Value.int IntKind.u8 (f 3), Value.int IntKind.u8 (f 4), Value.int IntKind.u8 (f 5),
 Value.int IntKind.u8 (f 6), Value.int IntKind.u8 (f 7), Value.int IntKind.u8 (f 8),
 Value.int IntKind.u8 (f 9), Value.int IntKind.u8 (f 10), Value.int IntKind.u8 (f 11),
 Value.int IntKind.u8 (f 12), Value.int IntKind.u8 (f 13), Value.int IntKind.u8 (f 14),
 Value.int IntKind.u8 (f 15), Value.int IntKind.u8 (f 16), Value.int IntKind.u8 (f 17),
 Value.int IntKind.u8 (f 18), Value.int IntKind.u8 (f 19), Value.int IntKind.u8 (f 20),
 Value.int IntKind.u8 (f 21), Value.int IntKind.u8 (f 22), Value.int IntKind.u8 (f 23),
 Value.int IntKind.u8 (f 24), Value.int IntKind.u8 (f 25), Value.int IntKind.u8 (f 26),
 Value.int IntKind.u8 (f 27), Value.int IntKind.u8 (f 28), Value.int IntKind.u8 (f 29),
 Value.int IntKind.u8 (f 30), Value.int IntKind.u8 (f 31)] ∧
 ∃ (x_2 : Bool),
 LookP Tryz.prog 81 (Value.map (some n))
 (Value.agg
 #[Value.int IntKind.u8 (f 0), Value.int IntKind.u8 (f (0 + 1)),
 Value.int IntKind.u8 (f 2), Value.int IntKind.u8 (f 3), Value.int IntKind.u8 (f 4),
 Value.int IntKind.u8 (f 5), Value.int IntKind.u8 (f 6), Value.int IntKind.u8 (f 7),
 Value.int IntKind.u8 (f 8), Value.int IntKind.u8 (f 9), Value.int IntKind.u8 (f 10),
 Value.int IntKind.u8 (f 11), Value.int IntKind.u8 (f 12), Value.int IntKind.u8 (f 13),
 Value.int IntKind.u8 (f 14), Value.int IntKind.u8 (f 15), Value.int IntKind.u8 (f 16),
 Value.int IntKind.u8 (f 17), Value.int IntKind.u8 (f 18), Value.int IntKind.u8 (f 19),
 Value.int IntKind.u8 (f 20), Value.int IntKind.u8 (f 21), Value.int IntKind.u8 (f 22),
 Value.int IntKind.u8 (f 23), Value.int IntKind.u8 (f 24), Value.int IntKind.u8 (f 25),
 Value.int IntKind.u8 (f 26), Value.int IntKind.u8 (f 27), Value.int IntKind.u8 (f 28),
 Value.int IntKind.u8 (f 29), Value.int IntKind.u8 (f 30), Value.int IntKind.u8 (f 31)])
 false (Value.bool x_2) w1_1 ∧
 bsp (!x_2)
 (∃ (f : Nat → Int),
 AtL w1_1 n_3 (0 + 1)
 [Value.int IntKind.u8 (f 0), Value.int IntKind.u8 (f (0 + 1)),
 Value.int IntKind.u8 (f 2), Value.int IntKind.u8 (f 3), Value.int IntKind.u8 (f 4),
 Value.int IntKind.u8 (f 5), Value.int IntKind.u8 (f 6), Value.int IntKind.u8 (f 7),
 Value.int IntKind.u8 (f 8), Value.int IntKind.u8 (f 9), Value.int IntKind.u8 (f 10),
 Value.int IntKind.u8 (f 11), Value.int IntKind.u8 (f 12),
 Value.int IntKind.u8 (f 13), Value.int IntKind.u8 (f 14),
 Value.int IntKind.u8 (f 15), Value.int IntKind.u8 (f 16),
 Value.int IntKind.u8 (f 17), Value.int IntKind.u8 (f 18),
 Value.int IntKind.u8 (f 19), Value.int IntKind.u8 (f 20),
 Value.int IntKind.u8 (f 21), Value.int IntKind.u8 (f 22),
 Value.int IntKind.u8 (f 23), Value.int IntKind.u8 (f 24),
 Value.int IntKind.u8 (f 25), Value.int IntKind.u8 (f 26),
 Value.int IntKind.u8 (f 27), Value.int IntKind.u8 (f 28),
 Value.int IntKind.u8 (f 29), Value.int IntKind.u8 (f 30),
 Value.int IntKind.u8 (f 31)] ∧
 ∃ (w1 : World),
 UpdP Tryz.prog 81 (Value.map (some n))
 (Value.agg
 #[Value.int IntKind.u8 (f 0), Value.int IntKind.u8 (f (0 + 1)),
 Value.int IntKind.u8 (f 2), Value.int IntKind.u8 (f 3),
 Value.int IntKind.u8 (f 4), Value.int IntKind.u8 (f 5),
 Value.int IntKind.u8 (f 6), Value.int IntKind.u8 (f 7),
 Value.int IntKind.u8 (f 8), Value.int IntKind.u8 (f 9),
 Value.int IntKind.u8 (f 10), Value.int IntKind.u8 (f 11),
 Value.int IntKind.u8 (f 12), Value.int IntKind.u8 (f 13),
 Value.int IntKind.u8 (f 14), Value.int IntKind.u8 (f 15),
 Value.int IntKind.u8 (f 16), Value.int IntKind.u8 (f 17),
 Value.int IntKind.u8 (f 18), Value.int IntKind.u8 (f 19),
 Value.int IntKind.u8 (f 20), Value.int IntKind.u8 (f 21),
 Value.int IntKind.u8 (f 22), Value.int IntKind.u8 (f 23),
 Value.int IntKind.u8 (f 24), Value.int IntKind.u8 (f 25),
 Value.int IntKind.u8 (f 26), Value.int IntKind.u8 (f 27),
 Value.int IntKind.u8 (f 28), Value.int IntKind.u8 (f 29),
 Value.int IntKind.u8 (f 30), Value.int IntKind.u8 (f 31)])
 (Value.bool true) w1_1 w1 ∧
 ∃ (f : Nat → Int),
 AtL w1 n_3 (0 + 1)
 [Value.int IntKind.u8 (f 0), Value.int IntKind.u8 (f (0 + 1)),
 Value.int IntKind.u8 (f 2), Value.int IntKind.u8 (f 3),
 Value.int IntKind.u8 (f 4), Value.int IntKind.u8 (f 5),
 Value.int IntKind.u8 (f 6), Value.int IntKind.u8 (f 7),
 Value.int IntKind.u8 (f 8), Value.int IntKind.u8 (f 9),
 Value.int IntKind.u8 (f 10), Value.int IntKind.u8 (f 11),
 Value.int IntKind.u8 (f 12), Value.int IntKind.u8 (f 13),
 Value.int IntKind.u8 (f 14), Value.int IntKind.u8 (f 15),
 Value.int IntKind.u8 (f 16), Value.int IntKind.u8 (f 17),
 Value.int IntKind.u8 (f 18), Value.int IntKind.u8 (f 19),
 Value.int IntKind.u8 (f 20), Value.int IntKind.u8 (f 21),
 Value.int IntKind.u8 (f 22), Value.int IntKind.u8 (f 23),
 Value.int IntKind.u8 (f 24), Value.int IntKind.u8 (f 25),
 Value.int IntKind.u8 (f 26), Value.int IntKind.u8 (f 27),
 Value.int IntKind.u8 (f 28), Value.int IntKind.u8 (f 29),
 Value.int IntKind.u8 (f 30), Value.int IntKind.u8 (f 31)] ∧
 ∀ (n : Nat) (w1_2 : World),
 NewB w1
 (Obj.cells
 #[Value.int IntKind.u8 (f 0), Value.int IntKind.u8 (f (0 + 1)),
 Value.int IntKind.u8 (f 2), Value.int IntKind.u8 (f 3),
 Value.int IntKind.u8 (f 4), Value.int IntKind.u8 (f 5),
 Value.int IntKind.u8 (f 6), Value.int IntKind.u8 (f 7),
 Value.int IntKind.u8 (f 8), Value.int IntKind.u8 (f 9),
 Value.int IntKind.u8 (f 10), Value.int IntKind.u8 (f 11),
 Value.int IntKind.u8 (f 12), Value.int IntKind.u8 (f 13),
 Value.int IntKind.u8 (f 14), Value.int IntKind.u8 (f 15),
 Value.int IntKind.u8 (f 16), Value.int IntKind.u8 (f 17),
 Value.int IntKind.u8 (f 18), Value.int IntKind.u8 (f 19),
 Value.int IntKind.u8 (f 20), Value.int IntKind.u8 (f 21),
 Value.int IntKind.u8 (f 22), Value.int IntKind.u8 (f 23),
 Value.int IntKind.u8 (f 24), Value.int IntKind.u8 (f 25),
 Value.int IntKind.u8 (f 26), Value.int IntKind.u8 (f 27),
 Value.int IntKind.u8 (f 28), Value.int IntKind.u8 (f 29),
 Value.int IntKind.u8 (f 30), Value.int IntKind.u8 (f 31)]
 43)
 n w1_2 →
 ∃ (base : Nat),
 ∃ (xs : List Value),
 ∃ (news : List Value),
 w1_2.ownsRow base 43 32 (Value.slice p n_2 c) n_2 xs ∧
 news.length = 32 ∧
 SrcP w1_2 (some (Addr.mk n 0 none)) news ∧
 n_2 + 1 ≤ 9223372036854775807 ∧
 (n_2 + 1) * 32 ≤ 140737488355328 ∧
 base ≤ w1_2.heap.size ∧
 ∀ (p' : Option Addr) (c' : Nat) (w'_1 : World),
 w'_1.ownsRow base 43 32 (Value.slice p' (n_2 + 1) c') (n_2 + 1)
 (xs ++ news) →
 w1_2.grownBy w'_1 (Value.slice p n_2 c).ownBlock →
 I
 [Value.int IntKind.i64 (IntKind.i64.wrap (x + 1)),
 Value.slice p' (n_2 + 1) c']
 w'_1 ∧
 m
 [Value.int IntKind.i64 (IntKind.i64.wrap (x + 1)),
 Value.slice p' (n_2 + 1) c']
 w'_1 <
 m [Value.int IntKind.i64 x, Value.slice p n_2 c] w')
 (I [Value.int IntKind.i64 (IntKind.i64.wrap (x + 1)), Value.slice p n_2 c] w1_1 ∧
 m [Value.int IntKind.i64 (IntKind.i64.wrap (x + 1)), Value.slice p n_2 c] w1_1 <
 m [Value.int IntKind.i64 x, Value.slice p n_2 c] w'))
 (R (Ending.returned (Value.slice p n_2 c)) w'))
theorem vc_select (q : Option Addr) (p : Option Addr) (n : Nat) (c : Nat) (now : Int) (w : World) (R : Ending → World → Prop) (h : VC_select q p n c now w R) : Calls Tryz.prog 9 ([Value.pointer
    q,
  Value.slice p n c, Value.int IntKind.i64 now] : List Value).toArray w R := by
  have e : execR { P := Tryz.prog, loops := [(3, [(18, Ck.int IntKind.i64), (7, Ck.slice)]), (13, [(47, Ck.int IntKind.i64), (12, Ck.slice)])], pur := pur1, tails := [], joins := [], boxes := [] } Tryz.f9.results.toList R (Tryz.f9.body.getD .skip) (initF [Value.pointer
    q,
  Value.slice p n c,
  Value.int IntKind.i64
    now] (Tryz.f9.ntmps - ([Value.pointer q, Value.slice p n c,
  Value.int IntKind.i64 now] : List Value).length)) w = VC_select q p n c now w R := by kernel_rfl
  have hb : Tryz.f9.body = some (Tryz.f9.body.getD .skip) := by kernel_rfl
  exact calls_of_exec' (P := Tryz.prog) (fn := Tryz.f9) (c := Tryz.f9.body.getD .skip) (args := [Value.pointer q,
  Value.slice p n c, Value.int IntKind.i64 now]) (w := w) (R := R) pur1_ok Tryz.func9 hb e h

def VC_scmp (a : Array Value) (b : Array Value) (w : World) (R : Ending → World → Prop) : Prop :=
 ∀ (n : Nat) (w1 : World),
 NewB w (Obj.cells a 75) n w1 →
 ∀ (n_1 : Nat) (w1_1 : World),
 NewB w1 (Obj.cells b 75) n_1 w1_1 →
 ∃ (S : World → Prop),
 S w1_1.drew ∧
 ∃ (x : Int),
 (∀ (w' : World), S w' → w'.cell? (Addr.mk n 0 none) = some (Value.int IntKind.i64 x)) ∧
 ∃ (x_1 : Int),
 (∀ (w' : World), S w' → w'.cell? (Addr.mk n_1 0 none) = some (Value.int IntKind.i64 x_1)) ∧
 ∃ (f : Nat → Int),
 (∀ (w' : World),
 S w' →
 AtL w' n (0 + 1)
 [Value.int IntKind.u8 (f 0), Value.int IntKind.u8 (f (0 + 1)), Value.int IntKind.u8 (f 2),
 Value.int IntKind.u8 (f 3), Value.int IntKind.u8 (f 4), Value.int IntKind.u8 (f 5),
 Value.int IntKind.u8 (f 6), Value.int IntKind.u8 (f 7), Value.int IntKind.u8 (f 8),
 Value.int IntKind.u8 (f 9), Value.int IntKind.u8 (f 10), Value.int IntKind.u8 (f 11),
 Value.int IntKind.u8 (f 12), Value.int IntKind.u8 (f 13), Value.int IntKind.u8 (f 14),
 Value.int IntKind.u8 (f 15), Value.int IntKind.u8 (f 16), Value.int IntKind.u8 (f 17),
 Value.int IntKind.u8 (f 18), Value.int IntKind.u8 (f 19), Value.int IntKind.u8 (f 20),
 Value.int IntKind.u8 (f 21), Value.int IntKind.u8 (f 22), Value.int IntKind.u8 (f 23),
 Value.int IntKind.u8 (f 24), Value.int IntKind.u8 (f 25), Value.int IntKind.u8 (f 26),
 Value.int IntKind.u8 (f 27), Value.int IntKind.u8 (f 28), Value.int IntKind.u8 (f 29),
 Value.int IntKind.u8 (f 30), Value.int IntKind.u8 (f 31)]) ∧
 ∃ (f_1 : Nat → Int),
 (∀ (w' : World),
 S w' →
 AtL w' n_1 (0 + 1)
 [Value.int IntKind.u8 (f_1 0), Value.int IntKind.u8 (f_1 (0 + 1)), Value.int IntKind.u8 (f_1 2),
 Value.int IntKind.u8 (f_1 3), Value.int IntKind.u8 (f_1 4), Value.int IntKind.u8 (f_1 5),
 Value.int IntKind.u8 (f_1 6), Value.int IntKind.u8 (f_1 7), Value.int IntKind.u8 (f_1 8),
 Value.int IntKind.u8 (f_1 9), Value.int IntKind.u8 (f_1 10), Value.int IntKind.u8 (f_1 11),
 Value.int IntKind.u8 (f_1 12), Value.int IntKind.u8 (f_1 13), Value.int IntKind.u8 (f_1 14),
 Value.int IntKind.u8 (f_1 15), Value.int IntKind.u8 (f_1 16), Value.int IntKind.u8 (f_1 17),
 Value.int IntKind.u8 (f_1 18), Value.int IntKind.u8 (f_1 19), Value.int IntKind.u8 (f_1 20),
 Value.int IntKind.u8 (f_1 21), Value.int IntKind.u8 (f_1 22), Value.int IntKind.u8 (f_1 23),
 Value.int IntKind.u8 (f_1 24), Value.int IntKind.u8 (f_1 25), Value.int IntKind.u8 (f_1 26),
 Value.int IntKind.u8 (f_1 27), Value.int IntKind.u8 (f_1 28), Value.int IntKind.u8 (f_1 29),
 Value.int IntKind.u8 (f_1 30), Value.int IntKind.u8 (f_1 31)]) ∧
 CallsS Tryz.prog 27 #[Value.int IntKind.i64 x, Value.int IntKind.i64 x_1] w1_1.drew
 fun (e : Ending) (w' : World) =>
 ∃ (x : Int),
 e = Ending.returned (Value.int IntKind.i64 x) ∧
 S w' ∧
 CallsS Tryz.prog 28
 #[Value.agg
 #[Value.int IntKind.u8 (f 0), Value.int IntKind.u8 (f (0 + 1)), Value.int IntKind.u8 (f 2),
 Value.int IntKind.u8 (f 3), Value.int IntKind.u8 (f 4), Value.int IntKind.u8 (f 5),
 Value.int IntKind.u8 (f 6), Value.int IntKind.u8 (f 7), Value.int IntKind.u8 (f 8),
 Value.int IntKind.u8 (f 9), Value.int IntKind.u8 (f 10), Value.int IntKind.u8 (f 11),
 Value.int IntKind.u8 (f 12), Value.int IntKind.u8 (f 13), Value.int IntKind.u8 (f 14),
 Value.int IntKind.u8 (f 15), Value.int IntKind.u8 (f 16), Value.int IntKind.u8 (f 17),
 Value.int IntKind.u8 (f 18), Value.int IntKind.u8 (f 19), Value.int IntKind.u8 (f 20),
 Value.int IntKind.u8 (f 21), Value.int IntKind.u8 (f 22), Value.int IntKind.u8 (f 23),
 Value.int IntKind.u8 (f 24), Value.int IntKind.u8 (f 25), Value.int IntKind.u8 (f 26),
 Value.int IntKind.u8 (f 27), Value.int IntKind.u8 (f 28), Value.int IntKind.u8 (f 29),
 Value.int IntKind.u8 (f 30), Value.int IntKind.u8 (f 31)],
 Value.agg
 #[Value.int IntKind.u8 (f_1 0), Value.int IntKind.u8 (f_1 (0 + 1)), Value.int IntKind.u8 (f_1 2),
 Value.int IntKind.u8 (f_1 3), Value.int IntKind.u8 (f_1 4), Value.int IntKind.u8 (f_1 5),
 Value.int IntKind.u8 (f_1 6), Value.int IntKind.u8 (f_1 7), Value.int IntKind.u8 (f_1 8),
 Value.int IntKind.u8 (f_1 9), Value.int IntKind.u8 (f_1 10), Value.int IntKind.u8 (f_1 11),
 Value.int IntKind.u8 (f_1 12), Value.int IntKind.u8 (f_1 13), Value.int IntKind.u8 (f_1 14),
 Value.int IntKind.u8 (f_1 15), Value.int IntKind.u8 (f_1 16), Value.int IntKind.u8 (f_1 17),
 Value.int IntKind.u8 (f_1 18), Value.int IntKind.u8 (f_1 19), Value.int IntKind.u8 (f_1 20),
 Value.int IntKind.u8 (f_1 21), Value.int IntKind.u8 (f_1 22), Value.int IntKind.u8 (f_1 23),
 Value.int IntKind.u8 (f_1 24), Value.int IntKind.u8 (f_1 25), Value.int IntKind.u8 (f_1 26),
 Value.int IntKind.u8 (f_1 27), Value.int IntKind.u8 (f_1 28), Value.int IntKind.u8 (f_1 29),
 Value.int IntKind.u8 (f_1 30), Value.int IntKind.u8 (f_1 31)]]
 w' fun (e : Ending) (w' : World) =>
 ∃ (x_2 : Int),
 e = Ending.returned (Value.int IntKind.i64 x_2) ∧
 ∀ (n : Nat) (w1 : World),
 NewB w' (Obj.cells #[Value.int IntKind.i64 x, Value.int IntKind.i64 x_2] 3) n w1 →
 CallsS Tryz.prog 26 #[Value.slice (some (Addr.mk n 0 none)) 2 2] w1
 fun (e : Ending) (w' : World) =>
 ∃ (x : Int),
 e = Ending.returned (Value.int IntKind.i64 x) ∧
 R (Ending.returned (Value.int IntKind.i64 x)) w'
theorem vc_scmp (a : Array Value) (b : Array Value) (w : World) (R : Ending → World → Prop) (h : VC_scmp a b w R) : Calls Tryz.prog 25 ([Value.agg
    a,
  Value.agg b] : List Value).toArray w R := by
  have e : execR { P := Tryz.prog, loops := [], pur := pur1, tails := [(1, 4)], joins := [], boxes := [] } Tryz.f25.results.toList R (Tryz.f25.body.getD .skip) (initF [Value.agg
    a,
  Value.agg b] (Tryz.f25.ntmps - ([Value.agg a, Value.agg b] : List Value).length)) w = VC_scmp a b w R := by kernel_rfl
  have hb : Tryz.f25.body = some (Tryz.f25.body.getD .skip) := by kernel_rfl
  exact calls_of_exec' (P := Tryz.prog) (fn := Tryz.f25) (c := Tryz.f25.body.getD .skip) (args := [Value.agg a,
  Value.agg b]) (w := w) (R := R) pur1_ok Tryz.func25 hb e h

def VC_cmpOr (p : Option Addr) (n : Nat) (c : Nat) (w : World) (R : Ending → World → Prop) : Prop :=
 ∃ (I : List Value → World → Prop),
 ∃ (m : List Value → World → Nat),
 I [Value.int IntKind.i64 0] w ∧
 ∀ (x : Int) (w' : World),
 I [Value.int IntKind.i64 x] w' →
 bsp (decide (x < (↑n : Int)))
 (nn true p fun (b o : Nat) =>
 (0 ≤ x ∧ x < (↑n : Int)) ∧
 ∃ (x_1 : Int),
 w'.cell? (Addr.mk b (o + x.toNat) none) = some (Value.int IntKind.i64 x_1) ∧
 bsp (x_1 != 0) (R (Ending.returned (Value.int IntKind.i64 x_1)) w')
 (I [Value.int IntKind.i64 (IntKind.i64.wrap (x + 1))] w' ∧
 m [Value.int IntKind.i64 (IntKind.i64.wrap (x + 1))] w' < m [Value.int IntKind.i64 x] w'))
 (R (Ending.returned (Value.int IntKind.i64 0)) w')
theorem vc_cmpOr (p : Option Addr) (n : Nat) (c : Nat) (w : World) (R : Ending → World → Prop) (h : VC_cmpOr p n c w R) : Calls Tryz.prog 26 ([Value.slice
    p n c] : List Value).toArray w R := by
  have e : execR { P := Tryz.prog, loops := [(3, [(8, Ck.int IntKind.i64)])], pur := pur1, tails := [], joins := [], boxes := [] } Tryz.f26.results.toList R (Tryz.f26.body.getD .skip) (initF [Value.slice
    p n c] (Tryz.f26.ntmps - ([Value.slice p n c] : List Value).length)) w = VC_cmpOr p n c w R := by kernel_rfl
  have hb : Tryz.f26.body = some (Tryz.f26.body.getD .skip) := by kernel_rfl
  exact calls_of_exec' (P := Tryz.prog) (fn := Tryz.f26) (c := Tryz.f26.body.getD .skip) (args := [Value.slice p n
    c]) (w := w) (R := R) pur1_ok Tryz.func26 hb e h

def VC_cmpI (a : Int) (b : Int) (w : World) (R : Ending → World → Prop) : Prop :=
 CallsS Tryz.prog 47 #[Value.int IntKind.i64 a] w fun (e : Ending) (w' : World) =>
 ∃ (x : Bool),
 e = Ending.returned (Value.bool x) ∧
 CallsS Tryz.prog 47 #[Value.int IntKind.i64 b] w' fun (e : Ending) (w' : World) =>
 ∃ (x_1 : Bool),
 e = Ending.returned (Value.bool x_1) ∧
 bsp x
 (bsp x_1 (R (Ending.returned (Value.int IntKind.i64 0)) w')
 (R (Ending.returned (Value.int IntKind.i64 (-1))) w'))
 (bsp x_1 (R (Ending.returned (Value.int IntKind.i64 1)) w')
 (bsp (decide (a < b)) (R (Ending.returned (Value.int IntKind.i64 (-1))) w')
 (bsp (decide (a > b)) (R (Ending.returned (Value.int IntKind.i64 1)) w')
 (R (Ending.returned (Value.int IntKind.i64 0)) w'))))
theorem vc_cmpI (a : Int) (b : Int) (w : World) (R : Ending → World → Prop) (h : VC_cmpI a b w R) : Calls Tryz.prog 27 ([Value.int
    IntKind.i64 a,
  Value.int IntKind.i64 b] : List Value).toArray w R := by
  have e : execR { P := Tryz.prog, loops := [], pur := pur1, tails := [], joins := [], boxes := [] } Tryz.f27.results.toList R (Tryz.f27.body.getD .skip) (initF [Value.int
    IntKind.i64 a,
  Value.int IntKind.i64
    b] (Tryz.f27.ntmps - ([Value.int IntKind.i64 a,
  Value.int IntKind.i64 b] : List Value).length)) w = VC_cmpI a b w R := by kernel_rfl
  have hb : Tryz.f27.body = some (Tryz.f27.body.getD .skip) := by kernel_rfl
  exact calls_of_exec' (P := Tryz.prog) (fn := Tryz.f27) (c := Tryz.f27.body.getD .skip) (args := [Value.int IntKind.i64
    a,
  Value.int IntKind.i64 b]) (w := w) (R := R) pur1_ok Tryz.func27 hb e h

end Go.Proofs.YtcpjajjocmpkjaaGreatDoor

/- The formulas of functions by the symbolic evaluator, and that each gives the call's contract. Written by a program (gen.py). No condition. -/
namespace Go.Proofs.YtcpjajjocmpkjaaGreatDoor
set_option maxRecDepth 100000
set_option linter.unusedVariables false

def VC_mcompare (a : Array Value) (b : Array Value) (w : World) (R : Ending → World → Prop) : Prop :=
 ∀ (n : Nat) (w1 : World),
 NewB w (Obj.cells a 43) n w1 →
 ∀ (n_1 : Nat) (w1_1 : World),
 NewB w1 (Obj.cells b 43) n_1 w1_1 →
 CallsS Tryz.prog 48 #[Value.slice (some (Addr.mk n 0 none)) 32 32, Value.slice (some (Addr.mk n_1 0 none)) 32 32]
 w1_1.drew fun (e : Ending) (w' : World) =>
 ∃ (x : Int), e = Ending.returned (Value.int IntKind.i64 x) ∧ R (Ending.returned (Value.int IntKind.i64 x)) w'
theorem vc_mcompare (a : Array Value) (b : Array Value) (w : World) (R : Ending → World → Prop) (h : VC_mcompare a b w R) : Calls Tryz.prog 28 ([Value.agg
    a,
  Value.agg b] : List Value).toArray w R := by
  have e : execR { P := Tryz.prog, loops := [], pur := pur1, tails := [(1, 2)], joins := [], boxes := [] } Tryz.f28.results.toList R (Tryz.f28.body.getD .skip) (initF [Value.agg
    a,
  Value.agg
    b] (Tryz.f28.ntmps - ([Value.agg a, Value.agg b] : List Value).length)) w = VC_mcompare a b w R := by kernel_rfl
  have hb : Tryz.f28.body = some (Tryz.f28.body.getD .skip) := by kernel_rfl
  exact calls_of_exec' (P := Tryz.prog) (fn := Tryz.f28) (c := Tryz.f28.body.getD .skip) (args := [Value.agg a,
  Value.agg b]) (w := w) (R := R) pur1_ok Tryz.func28 hb e h

def VC_litems (p : Option Addr) (n : Nat) (c : Nat) (w : World) (R : Ending → World → Prop) : Prop :=
 ∃ (I : List Value → World → Prop),
 ∃ (m : List Value → World → Nat),
 I [Value.int IntKind.i64 0, Value.slice none 0 0, Value.slice none 0 0] w ∧
 ∀ (x : Int) (p_1 : Option Addr) (n_1 c : Nat) (p_2 : Option Addr) (n_2 c_1 : Nat) (w' : World),
 I [Value.int IntKind.i64 x, Value.slice p_1 n_1 c, Value.slice p_2 n_2 c_1] w' →
 bsp (decide (x < (↑n : Int)) && decide (x < 20))
 (nn true p fun (b o : Nat) =>
 (0 ≤ x ∧ x < (↑n : Int)) ∧
 ∃ (f : Nat → Int),
 ∃ (p : Option Addr),
 ∃ (n : Nat),
 ∃ (c_2 : Nat),
 ∃ (x_1 : ByteArray),
 ∃ (x_2 : Int),
 ∃ (x_3 : Bool),
 ∃ (x_4 : ByteArray),
 ∃ (x_5 : Int),
 AtL w' b (o + x.toNat * 38)
 (arrI IntKind.u8 f 32 0 ++ [Value.slice p n c_2, Value.string x_1,
 Value.int IntKind.i64 x_2, Value.bool x_3, Value.string x_4, Value.int IntKind.i64 x_5]) ∧
 CallsS Tryz.prog 23
 #[Value.agg
 (arrI IntKind.u8 f 32 0 ++ [Value.slice p n c_2, Value.string x_1,
 Value.int IntKind.i64 x_2, Value.bool x_3, Value.string x_4, Value.int IntKind.i64 x_5]).toArray]
 w' fun (e : Ending) (w'_1 : World) =>
 ∃ (f : Nat → Int),
 ∃ (p : Option Addr),
 ∃ (n : Nat),
 ∃ (c_3 : Nat),
 ∃ (x_6 : ByteArray),
 ∃ (x_7 : Int),
 ∃ (x_8 : Bool),
 ∃ (x_9 : ByteArray),
 ∃ (x_10 : Int),
 ∃ (f_1 : Nat → Int),
 ∃ (p_3 : Option Addr),
 ∃ (n_3 : Nat),
 ∃ (c_4 : Nat),
 ∃ (x_11 : ByteArray),
 ∃ (x_12 : Int),
 ∃ (x_13 : Bool),
 ∃ (x_14 : ByteArray),
 ∃ (x_15 : Int),
 e =
 Ending.returned
 (Value.tuple
 #[Value.agg
 (arrI IntKind.u8 f 32 0 ++ [Value.slice p n c_3, Value.string x_6, Value.int IntKind.i64 x_7,
 Value.bool x_8, Value.string x_9, Value.int IntKind.i64 x_10]).toArray,
 Value.agg
 (arrI IntKind.u8 f_1 32 0 ++ [Value.slice p_3 n_3 c_4, Value.string x_11, Value.int IntKind.i64 x_12,
 Value.bool x_13, Value.string x_14, Value.int IntKind.i64 x_15]).toArray]) ∧
 ∀ (n_4 : Nat) (w1 : World),
 NewB w'_1
 (Obj.cells
 #[Value.int IntKind.u8 0, Value.int IntKind.u8 0, Value.int IntKind.u8 0,
 Value.int IntKind.u8 0, Value.int IntKind.u8 0, Value.int IntKind.u8 0,
 Value.int IntKind.u8 0, Value.int IntKind.u8 0, Value.int IntKind.u8 0,
 Value.int IntKind.u8 0, Value.int IntKind.u8 0, Value.int IntKind.u8 0,
 Value.int IntKind.u8 0, Value.int IntKind.u8 0, Value.int IntKind.u8 0,
 Value.int IntKind.u8 0, Value.int IntKind.u8 0, Value.int IntKind.u8 0,
 Value.int IntKind.u8 0, Value.int IntKind.u8 0, Value.int IntKind.u8 0,
 Value.int IntKind.u8 0, Value.int IntKind.u8 0, Value.int IntKind.u8 0,
 Value.int IntKind.u8 0, Value.int IntKind.u8 0, Value.int IntKind.u8 0,
 Value.int IntKind.u8 0, Value.int IntKind.u8 0, Value.int IntKind.u8 0,
 Value.int IntKind.u8 0, Value.int IntKind.u8 0, Value.slice none 0 0,
 Value.string (ByteArray.mk #[]), Value.int IntKind.i64 0, Value.bool false,
 Value.string (ByteArray.mk #[]), Value.int IntKind.i64 0]
 53)
 n_4 w1 →
 ∀ (n_5 : Nat) (w1_1 : World),
 NewB w1
 (Obj.cells
 #[Value.int IntKind.u8 0, Value.int IntKind.u8 0, Value.int IntKind.u8 0,
 Value.int IntKind.u8 0, Value.int IntKind.u8 0, Value.int IntKind.u8 0,
 Value.int IntKind.u8 0, Value.int IntKind.u8 0, Value.int IntKind.u8 0,
 Value.int IntKind.u8 0, Value.int IntKind.u8 0, Value.int IntKind.u8 0,
 Value.int IntKind.u8 0, Value.int IntKind.u8 0, Value.int IntKind.u8 0,
 Value.int IntKind.u8 0, Value.int IntKind.u8 0, Value.int IntKind.u8 0,
 Value.int IntKind.u8 0, Value.int IntKind.u8 0, Value.int IntKind.u8 0,
 Value.int IntKind.u8 0, Value.int IntKind.u8 0, Value.int IntKind.u8 0,
 Value.int IntKind.u8 0, Value.int IntKind.u8 0, Value.int IntKind.u8 0,
 Value.int IntKind.u8 0, Value.int IntKind.u8 0, Value.int IntKind.u8 0,
 Value.int IntKind.u8 0, Value.int IntKind.u8 0, Value.slice none 0 0,
 Value.string (ByteArray.mk #[]), Value.int IntKind.i64 0, Value.bool false,
 Value.string (ByteArray.mk #[]), Value.int IntKind.i64 0]
 70)
 n_5 w1_1 →
 WrL w1_1 n_4 0 38 ∧
 ∀ (w1 : World),
 PutB w1_1 n_4 0
 (arrI IntKind.u8 f 32 0 ++ [Value.slice p n c_3, Value.string x_6, Value.int IntKind.i64 x_7,
 Value.bool x_8, Value.string x_9, Value.int IntKind.i64 x_10])
 w1 →
 WrL w1 n_5 0 38 ∧
 ∀ (w1_2 : World),
 PutB w1 n_5 0
 (arrI IntKind.u8 f_1 32 0 ++ [Value.slice p_3 n_3 c_4, Value.string x_11,
 Value.int IntKind.i64 x_12, Value.bool x_13, Value.string x_14,
 Value.int IntKind.i64 x_15])
 w1_2 →
 ∃ (S : World → Prop),
 S w1_2.drew ∧
 ∃ (f : Nat → Int),
 ∃ (p : Option Addr),
 ∃ (n : Nat),
 ∃ (c_5 : Nat),
 ∃ (x_16 : ByteArray),
 ∃ (x_17 : Int),
 ∃ (x_18 : Bool),
 ∃ (x_19 : ByteArray),
 ∃ (x_20 : Int),
 (∀ (w' : World),
 S w' →
 AtL w' n_4 0
 (arrI IntKind.u8 f 32 0 ++ [Value.slice p n c_5,
 Value.string x_16, Value.int IntKind.i64 x_17,
 Value.bool x_18, Value.string x_19,
 Value.int IntKind.i64 x_20])) ∧
 ∃ (f_2 : Nat → Int),
 ∃ (p_4 : Option Addr),
 ∃ (n_6 : Nat),
 ∃ (c_6 : Nat),
 ∃ (x_21 : ByteArray),
 ∃ (x_22 : Int),
 ∃ (x_23 : Bool),
 ∃ (x_24 : ByteArray),
 ∃ (x_25 : Int),
 (∀ (w' : World),
 S w' →
 AtL w' n_5 0
 (arrI IntKind.u8 f_2 32 0 ++ [Value.slice p_4 n_6 c_6, Value.string x_21,
 Value.int IntKind.i64 x_22, Value.bool x_23,
 Value.string x_24,
 Value.int IntKind.i64 x_25])) ∧
 (∀ (n_7 : Nat) (w1 : World),
 NewB w1_2.drew
 (Obj.cells
 (arrI IntKind.u8 f 32 0 ++ [Value.slice p n c_5, Value.string x_16,
 Value.int IntKind.i64 x_17, Value.bool x_18,
 Value.string x_19,
 Value.int IntKind.i64 x_20]).toArray
 53)
 n_7 w1 →
 S w1 ∧
 (∃ (base : Nat),
 ∃ (xs : List Value),
 ∃ (news : List Value),
 w1.ownsRow base 53 38
 (Value.slice p_2 n_2 c_1) n_2 xs ∧
 news.length = 38 ∧
 SrcP w1 (some (Addr.mk n_7 0 none))
 news ∧
 n_2 + 1 ≤ 9223372036854775807 ∧
 (n_2 + 1) * 112 ≤ 140737488355328 ∧
 base ≤ w1.heap.size ∧
 ∀ (p' : Option Addr) (c' : Nat)
 (w'_2 : World),
 w'_2.ownsRow base 53 38
 (Value.slice p' (n_2 + 1) c')
 (n_2 + 1) (xs ++ news) →
 w1.grownBy w'_2
 (Value.slice p_2 n_2
 c_1).ownBlock →
 S w'_2 ∧
 ∀ (n : Nat) (w1 : World),
 NewB w'_2
 (Obj.cells
 (arrI IntKind.u8 f_2 32 0 ++ [Value.slice p_4 n_6 c_6,
 Value.string x_21,
 Value.int IntKind.i64 x_22,
 Value.bool x_23,
 Value.string x_24,
 Value.int IntKind.i64 x_25]).toArray
 70)
 n w1 →
 S w1 ∧
 ∃ (base : Nat),
 ∃ (xs : List Value),
 ∃ (news : List Value),
 w1.ownsRow base 70 38
 (Value.slice p_1 n_1 c)
 n_1 xs ∧
 news.length = 38 ∧
 SrcP w1
 (some
 (Addr.mk n 0 none))
 news ∧
 n_1 + 1 ≤
 9223372036854775807 ∧
 (n_1 + 1) * 112 ≤
 140737488355328 ∧
 base ≤ w1.heap.size ∧
 ∀
 (p'_1 :
 Option Addr)
 (c'_1 : Nat)
 (w'_3 : World),
 w'_3.ownsRow base
 70 38
 (Value.slice p'_1
 (n_1 + 1) c'_1)
 (n_1 + 1)
 (xs ++ news) →
 w1.grownBy w'_3
 (Value.slice p_1
 n_1
 c).ownBlock →
 I
 [Value.int
 IntKind.i64
 (IntKind.i64.wrap
 (x + 1)),
 Value.slice
 p'_1
 (n_1 + 1)
 c'_1,
 Value.slice p'
 (n_2 + 1) c']
 w'_3 ∧
 m
 [Value.int
 IntKind.i64
 (IntKind.i64.wrap
 (x + 1)),
 Value.slice
 p'_1
 (n_1 + 1)
 c'_1,
 Value.slice
 p' (n_2 + 1)
 c']
 w'_3 <
 m
 [Value.int
 IntKind.i64
 x,
 Value.slice
 p_1 n_1 c,
 Value.slice
 p_2 n_2 c_1]
 w') ∧
 ∀ (n : Nat) (w1_3 : World),
 NewB w1
 (Obj.cells
 (arrI IntKind.u8 f_2 32 0 ++ [Value.slice p_4 n_6 c_6,
 Value.string x_21,
 Value.int IntKind.i64 x_22,
 Value.bool x_23, Value.string x_24,
 Value.int IntKind.i64 x_25]).toArray
 70)
 n w1_3 →
 S w1_3 ∧
 ∃ (base : Nat),
 ∃ (xs : List Value),
 ∃ (news : List Value),
 w1_3.ownsRow base 53 38
 (Value.slice p_2 n_2 c_1) n_2 xs ∧
 news.length = 38 ∧
 SrcP w1_3 (some (Addr.mk n_7 0 none))
 news ∧
 n_2 + 1 ≤ 9223372036854775807 ∧
 (n_2 + 1) * 112 ≤ 140737488355328 ∧
 base ≤ w1_3.heap.size ∧
 ∀ (p' : Option Addr) (c' : Nat)
 (w'_2 : World),
 w'_2.ownsRow base 53 38
 (Value.slice p' (n_2 + 1) c')
 (n_2 + 1) (xs ++ news) →
 w1_3.grownBy w'_2
 (Value.slice p_2 n_2
 c_1).ownBlock →
 S w'_2 ∧
 ∃ (base : Nat),
 ∃ (xs : List Value),
 ∃ (news : List Value),
 w'_2.ownsRow base 70 38
 (Value.slice p_1 n_1 c)
 n_1 xs ∧
 news.length = 38 ∧
 SrcP w'_2
 (some
 (Addr.mk n 0 none))
 news ∧
 n_1 + 1 ≤
 9223372036854775807 ∧
 (n_1 + 1) * 112 ≤
 140737488355328 ∧
 base ≤
 w'_2.heap.size ∧
 ∀
 (p'_1 :
 Option Addr)
 (c'_1 : Nat)
 (w'_3 : World),
 w'_3.ownsRow base
 70 38
 (Value.slice p'_1
 (n_1 + 1) c'_1)
 (n_1 + 1)
 (xs ++ news) →
 w'_2.grownBy w'_3
 (Value.slice p_1
 n_1
 c).ownBlock →
 I
 [Value.int
 IntKind.i64
 (IntKind.i64.wrap
 (x + 1)),
 Value.slice
 p'_1
 (n_1 + 1)
 c'_1,
 Value.slice p'
 (n_2 + 1) c']
 w'_3 ∧
 m
 [Value.int
 IntKind.i64
 (IntKind.i64.wrap
 (x + 1)),
 Value.slice
 p'_1
 (n_1 + 1)
 c'_1,
 Value.slice
 p' (n_2 + 1)
 c']
 w'_3 <
 m
 [Value.int
 IntKind.i64
 x,
 Value.slice
 p_1 n_1 c,
 Value.slice
 p_2 n_2 c_1]
 w') ∧
 ∀ (n_7 : Nat) (w1 : World),
 NewB w1_2.drew
 (Obj.cells
 (arrI IntKind.u8 f_2 32 0 ++ [Value.slice p_4 n_6 c_6, Value.string x_21,
 Value.int IntKind.i64 x_22, Value.bool x_23,
 Value.string x_24,
 Value.int IntKind.i64 x_25]).toArray
 70)
 n_7 w1 →
 S w1 ∧
 ∀ (n_8 : Nat) (w1_3 : World),
 NewB w1
 (Obj.cells
 (arrI IntKind.u8 f 32 0 ++ [Value.slice p n c_5, Value.string x_16,
 Value.int IntKind.i64 x_17,
 Value.bool x_18, Value.string x_19,
 Value.int IntKind.i64 x_20]).toArray
 53)
 n_8 w1_3 →
 S w1_3 ∧
 ∃ (base : Nat),
 ∃ (xs : List Value),
 ∃ (news : List Value),
 w1_3.ownsRow base 53 38
 (Value.slice p_2 n_2 c_1) n_2 xs ∧
 news.length = 38 ∧
 SrcP w1_3 (some (Addr.mk n_8 0 none))
 news ∧
 n_2 + 1 ≤ 9223372036854775807 ∧
 (n_2 + 1) * 112 ≤ 140737488355328 ∧
 base ≤ w1_3.heap.size ∧
 ∀ (p' : Option Addr) (c' : Nat)
 (w'_2 : World),
 w'_2.ownsRow base 53 38
 (Value.slice p' (n_2 + 1) c')
 (n_2 + 1) (xs ++ news) →
 w1_3.grownBy w'_2
 (Value.slice p_2 n_2
 c_1).ownBlock →
 S w'_2 ∧
 ∃ (base : Nat),
 ∃ (xs : List Value),
 ∃ (news : List Value),
 w'_2.ownsRow base 70 38
 (Value.slice p_1 n_1 c)
 n_1 xs ∧
 news.length = 38 ∧
 SrcP w'_2
 (some
 (Addr.mk n_7 0 none))
 news ∧
 n_1 + 1 ≤
 9223372036854775807 ∧
 (n_1 + 1) * 112 ≤
 140737488355328 ∧
 base ≤
 w'_2.heap.size ∧
 ∀
 (p'_1 : Option Addr)
 (c'_1 : Nat)
 (w'_3 : World),
 w'_3.ownsRow base 70
 38
 (Value.slice p'_1
 (n_1 + 1) c'_1)
 (n_1 + 1)
 (xs ++ news) →
 w'_2.grownBy w'_3
 (Value.slice p_1
 n_1
 c).ownBlock →
 I
 [Value.int
 IntKind.i64
 (IntKind.i64.wrap
 (x + 1)),
 Value.slice
 p'_1 (n_1 + 1)
 c'_1,
 Value.slice p'
 (n_2 + 1) c']
 w'_3 ∧
 m
 [Value.int
 IntKind.i64
 (IntKind.i64.wrap
 (x + 1)),
 Value.slice
 p'_1
 (n_1 + 1)
 c'_1,
 Value.slice p'
 (n_2 + 1) c']
 w'_3 <
 m
 [Value.int
 IntKind.i64
 x,
 Value.slice
 p_1 n_1 c,
 Value.slice
 p_2 n_2 c_1]
 w')
 (R (Ending.returned (Value.tuple #[Value.slice p_2 n_2 c_1, Value.slice p_1 n_1 c])) w')
theorem vc_litems (p : Option Addr) (n : Nat) (c : Nat) (w : World) (R : Ending → World → Prop) (h : VC_litems p n c w R) : Calls Tryz.prog 8 ([Value.slice
    p n c] : List Value).toArray w R := by
  have e : execR { P := Tryz.prog, loops := [(4, [(6, Ck.int IntKind.i64), (5, Ck.slice), (4, Ck.slice)])], pur := pur1, tails := [(7, 2)], joins := [], boxes := [] } Tryz.f8.results.toList R (Tryz.f8.body.getD .skip) (initF [Value.slice
    p n c] (Tryz.f8.ntmps - ([Value.slice p n c] : List Value).length)) w = VC_litems p n c w R := by kernel_rfl
  have hb : Tryz.f8.body = some (Tryz.f8.body.getD .skip) := by kernel_rfl
  exact calls_of_exec' (P := Tryz.prog) (fn := Tryz.f8) (c := Tryz.f8.body.getD .skip) (args := [Value.slice p n
    c]) (w := w) (R := R) pur1_ok Tryz.func8 hb e h

end Go.Proofs.YtcpjajjocmpkjaaGreatDoor

/- The contracts of bytes.Compare, msgid.Compare, cmp.Or and of the closure by which Select sorts. -/
namespace Go.Proofs.YtcpjajjocmpkjaaGreatDoor
open Go.RowKit Go.Sort

/-- The numbers of an array of 32 bytes. -/
def idI (f : Nat → Int) : List Int := (List.range 32).map f
/-- Its bytes. -/
def idB (f : Nat → Int) : List UInt8 := (idI f).map fun x => x.toNat.toUInt8
theorem arrI_idI (f : Nat → Int) : arrI .u8 f 32 0 = (idI f).map (Value.int .u8) := rfl
theorem idI_get (f : Nat → Int) {j : Nat} (h : j < 32) : (idI f)[j]? = some (f j) := by simp [idI, h]
theorem bytesOf_idB (f : Nat → Int) : Lib.bytesOf (idI f) = idB f := rfl
set_option maxRecDepth 100000 in
theorem bcompare_run {w : World} {b b' o o' : Nat} {f g : Nat → Int} (h : ∀ j, j < 32 → w.cell? ⟨b, o + j, none⟩ = some (.int .u8 (f j))) (h' : ∀ j, j < 32 → w.cell? ⟨b', o' + j, none⟩ = some (.int .u8 (g j))) (c c' : Nat) :
    (Extern.BytealgCompare.compare #[.slice (some ⟨b, o, none⟩) 32 c, .slice (some ⟨b', o', none⟩) 32 c']).run Tryz.prog w = .ok (.int .i64 (Lib.compareBytes (idB f) (idB g))) w := by
  have key : ∀ (b o : Nat) (f : Nat → Int), (∀ j, j < 32 → w.cell? ⟨b, o + j, none⟩ = some (.int .u8 (f j))) → (Extern.Bytes.loadBytes ⟨b, o, none⟩ 32 .empty).run Tryz.prog w = .ok ⟨(idB f).toArray⟩ w := fun b o f h => by
    have := Lib.run_loadBytesX (P := Tryz.prog) w (idI f) ⟨b, o, none⟩ .empty (fun j x hj => by
      have hlt : j < 32 := by have := (List.getElem?_eq_some_iff.1 hj).1; simpa [idI] using this
      rw [idI_get f hlt] at hj
      simp at hj
      subst hj
      have e : (⟨b, o, none⟩ : Addr).add j = ⟨b, o + j, none⟩ := by
        unfold Addr.add
        simp
      rw [e]
      exact h j hlt)
    have hl : (idI f).length = 32 := by simp [idI]
    rw [hl, bytesOf_idB] at this
    rw [this]
    generalize idB f = l
    have e : ByteArray.empty.data ++ l.toArray = l.toArray := by
      show (#[] : Array UInt8) ++ l.toArray = l.toArray
      simp
    rw [e]
  change Sem.run Tryz.prog (do pure (goInt (Extern.BytealgCompare.cmp (← Extern.Bytes.bytesOf (.slice (some ⟨b, o, none⟩) 32 c)) (← Extern.Bytes.bytesOf (.slice (some ⟨b', o', none⟩) 32 c'))))) w = _
  simp only [Extern.Bytes.bytesOf, Sem.run_bind, key b o f h, key b' o' g h', Sem.run_pure, Result.andThen]
  rw [Lib.cmp_eq]
  rfl
set_option maxHeartbeats 1000000 in
set_option maxRecDepth 100000 in
theorem bcompare_any {w : World} {b b' o o' : Nat} {f g : Nat → Int} (h : ∀ j, j < 32 → w.cell? ⟨b, o + j, none⟩ = some (.int .u8 (f j))) (h' : ∀ j, j < 32 → w.cell? ⟨b', o' + j, none⟩ = some (.int .u8 (g j))) (c c' : Nat) :
    Calls Tryz.prog 48 #[.slice (some ⟨b, o, none⟩) 32 c, .slice (some ⟨b', o', none⟩) 32 c'] w fun e w' => e = .returned (.int .i64 (Lib.compareBytes (idB f) (idB g))) ∧ w' = w := by
  have hr := bcompare_run h h' c c'
  generalize Lib.compareBytes (idB f) (idB g) = r at hr ⊢
  clear h h'
  go_enter Tryz.func48, Tryz.ntmps48
  go_wp2
  rw [run_callFunc_extern Tryz.func71 (by kernel_rfl) (by kernel_rfl) (by kernel_rfl) (e := Extern.BytealgCompare.compare) (by kernel_rfl), hr]
  simp only [Result.andThen]
  rw [Oper.upon_value]
  go_wp2
  go_ret
  exact ⟨rfl, rfl⟩

theorem arrI_get (k : IntKind) (f : Nat → Int) : ∀ (n i j : Nat), j < n → (arrI k f n i)[j]? = some (.int k (f (i + j)))
  | 0, _, j, h => by omega
  | n + 1, i, 0, _ => by simp [arrI]
  | n + 1, i, j + 1, h => by
    simp only [arrI, List.getElem?_cons_succ]
    rw [arrI_get k f n (i + 1) j (by omega)]
    congr 3; omega
/-- Only draws and new blocks. -/
theorem grow_of {w w' : World} (h : K0 w w') (hd : w.drawn ≤ w'.drawn) : ∃ q os', w' = grow (w.drewN q) os' := by
  refine ⟨w'.drawn - w.drawn, w'.heap.extract w.heap.size w'.heap.size, ?_⟩
  have hh : w'.heap = w.heap ++ w'.heap.extract w.heap.size w'.heap.size := by
    apply Array.ext_getElem?
    intro i
    rw [Array.getElem?_append]
    split
    · rename_i hi; exact h.block i hi (fun h => h)
    · rename_i hi
      rw [Array.getElem?_extract]
      have := h.size
      by_cases hl : i < w'.heap.size
      · rw [if_pos (by omega)]; congr 1; omega
      · rw [if_neg (by omega)]; exact Array.getElem?_eq_none (by omega)
  have h1 := h.os
  have h2 := h.tape
  have h3 := h.output
  obtain ⟨hp, tp, dr, os, out⟩ := w
  obtain ⟨hp', tp', dr', os', out'⟩ := w'
  simp only at hh h1 h2 h3 hd
  subst h1 h2 h3
  simp only [grow, World.drewN]
  congr 1
  omega
theorem mcompare_any (f g : Nat → Int) (w : World) : Calls Tryz.prog 28 #[.agg (arrI .u8 f 32 0).toArray, .agg (arrI .u8 g 32 0).toArray] w fun e w' => e = .returned (.int .i64 (Lib.compareBytes (idB f) (idB g))) ∧ K0 w w' ∧ w.drawn ≤ w'.drawn := by
  refine vc_mcompare _ _ w _ ?_
  intro n w1 hn n1 w2 hn1
  have b1 := (hn1.kp (fun _ => False)).blk hn.block (fun h => h)
  have b2 := hn1.block
  have hd : w2.drawn = w.drawn := by rw [hn1.hw, hn.hw]; rfl
  refine ⟨(bcompare_any (w := w2.drew) (f := f) (g := g) (fun j hj => cell_at (blk_drew b1) ?_) (fun j hj => cell_at (blk_drew b2) ?_) 32 32).mono fun e w' ⟨he, hw⟩ => ⟨_, he, rfl, ?_, ?_⟩⟩
  · rw [Nat.zero_add]; simpa using arrI_get .u8 f 32 0 j hj
  · rw [Nat.zero_add]; simpa using arrI_get .u8 g 32 0 j hj
  · rw [hw]; exact ((hn.kp _).trans (hn1.kp _)).drew
  · rw [hw]; show w.drawn ≤ w2.drawn + 1; omega
theorem cmpOr_any (a b : Int) (n c : Nat) (t : TypeId) (w : World) (hb : w.heap[n]? = some (.cells #[.int .i64 a, .int .i64 b] t (0, 0))) : Calls Tryz.prog 26 #[.slice (some ⟨n, 0, none⟩) 2 c] w fun e w' => e = .returned (.int .i64 (if a ≠ 0 then a else b)) ∧ w' = w := by
  refine vc_cmpOr (some ⟨n, 0, none⟩) 2 c w _ ?_
  refine count1 2 (by decide) (fun k w' => (0 < k → a = 0) ∧ (1 < k → b = 0) ∧ w' = w) ⟨fun h => by omega, fun h => by omega, rfl⟩ ?_
  rintro I m k w' hk ⟨h0, h1, rfl⟩ next
  refine bsp_intro (fun hlt => ?_) (fun hge => ?_)
  · have hlt : k < 2 := by simp at hlt; omega
    show (0 ≤ (k : Int) ∧ (k : Int) < ((2 : Nat) : Int)) ∧ _
    rw [Int.toNat_natCast]
    obtain rfl | rfl : k = 0 ∨ k = 1 := by omega
    · refine ⟨by omega, a, cell_at hb rfl, bsp_intro (fun h => ⟨?_, rfl⟩) (fun h => next hlt _ ⟨fun _ => ?_, fun h => by omega, rfl⟩)⟩
      · have h : a ≠ 0 := by simpa using h
        rw [if_pos h]
      · simpa using h
    · have ha := h0 (by omega)
      refine ⟨by omega, b, cell_at hb rfl, bsp_intro (fun h => ⟨?_, rfl⟩) (fun h => next hlt _ ⟨fun _ => ha, fun _ => by simpa using h, rfl⟩)⟩
      rw [if_neg (by omega)]
  · have : k = 2 := by simp at hge; omega
    subst this
    rw [if_neg (by have := h0 (by omega); omega), h1 (by omega)]
    exact ⟨rfl, rfl⟩
/-- A candidate: when it is due, its identity. -/
abbrev Cand := Int × (Nat → Int)
def candL (x : Cand) : List Value := [Value.int .i64 x.1] ++ arrI .u8 x.2 32 0
def cfI (x y : Cand) : Int := if x.1 < y.1 then -1 else if y.1 < x.1 then 1 else 0
def cfC (x y : Cand) : Int := if cfI x y ≠ 0 then cfI x y else Lib.compareBytes (idB x.2) (idB y.2)
theorem cfC_ord : Ord3 cfC := (ci_ord (fun x : Cand => x.1)).thn (cb_ord (fun x : Cand => idB x.2)) (fun x y z h1 h2 => by (try simp only at h1 h2 ⊢); split at h1 <;> split at h2 <;> split <;> omega)
theorem cfI_eq (x y : Cand) : cfI x y = Lib.compareInt x.1 y.1 := by unfold cfI Lib.compareInt; rfl
theorem scmp_any (x y : Cand) (w : World) : Calls Tryz.prog 25 #[.agg (candL x).toArray, .agg (candL y).toArray] w fun e w' => e = .returned (.int .i64 (cfC x y)) ∧ K0 w w' ∧ w.drawn ≤ w'.drawn := by
  refine vc_scmp _ _ w _ ?_
  intro n w1 hn n1 w2 hn1
  have b1 := (hn1.kp (fun _ => False)).blk hn.block (fun h => h)
  have b2 := hn1.block
  have hd : w2.drawn = w.drawn := by rw [hn1.hw, hn.hw]; rfl
  have k2 : K0 w w2 := (hn.kp _).trans (hn1.kp _)
  refine ⟨fun wx => K0 w2 wx, (Kp.refl _ _).drew, x.1, fun wx h => cell_at (h.blk b1 (fun h => h)) rfl, y.1, fun wx h => cell_at (h.blk b2 (fun h => h)) rfl, x.2, fun wx h => AtL_block (h.blk b1 (fun h => h)) rfl, y.2, fun wx h => AtL_block (h.blk b2 (fun h => h)) rfl, ?_⟩
  refine ⟨(Tryz.cmp_Compare_int x.1 y.1 w2.drew).mono fun e w3 ⟨he, hw⟩ => ⟨_, he, by rw [hw]; exact (Kp.refl _ _).drew, ?_⟩⟩
  subst hw
  refine ⟨(mcompare_any x.2 y.2 w2.drew).mono fun e w4 ⟨he, hk4, hd4⟩ => ⟨_, he, fun n3 w5 hn5 => ?_⟩⟩
  refine ⟨(cmpOr_any _ _ n3 2 _ w5 hn5.block).mono fun e w6 ⟨he, hw⟩ => ⟨_, he, ?_, ?_, ?_⟩⟩
  · unfold cfC; rw [cfI_eq]
  · rw [hw]; exact (k2.drew.trans hk4).trans (hn5.kp _)
  · rw [hw, hn5.hw]
    show w.drawn ≤ w4.drawn
    have : w2.drew.drawn = w2.drawn + 1 := rfl
    omega

end Go.Proofs.YtcpjajjocmpkjaaGreatDoor

/-
  DERIVED: THE SHELF's CONTRACTS AT THIS DUMP, IN PLAIN WORDS (tools/lay-plain.mjs out of 'TryzShelf.lean', which tools/lay-shelf.mjs wrote): THE SAME DECLARATIONS UNDER THE SAME NAMES: 'import', 'namespace', 'open', 'def', 'theorem' AND NOTHING ELSE: no command of the shelf's: FOR A HAND-IN. Each laying: the table of numbers ('.._ren') and one theorem, a field a fact of the dump's own or the kernel's comparison; each contract: ONE APPLICATION.
-/
namespace Go.Proofs
open Go.Shelf
def Tryz.laysSlF06_f24_ren : Go.Shelf.Ren := ⟨fun | 6 => 24 | 15 => 46 | 14 => 45 | 28 => 69 | 29 => 70 | 20 => 61 | 21 => 62 | 22 => 63 | 23 => 64 | 24 => 65 | 25 => 66 | 26 => 67 | 27 => 68 | 46 => 81 | 47 => 82 | 48 => 83 | 49 => 84 | 50 => 85 | 57 => 95 | n => n, fun | 22 => 73 | 24 => 75 | 25 => 80 | 3 => 3 | 39 => 111 | 0 => 0 | 53 => 145 | 55 => 147 | 4 => 4 | 46 => 139 | 45 => 138 | 50 => 54 | 5 => 5 | 9 => 9 | 66 => 155 | 70 => 159 | 76 => 170 | 77 => 62 | n => n, fun | n => n⟩
theorem Tryz.laysSlF06_f24 : Go.Proofs.SlLaysF0.n6 Tryz.prog Tryz.laysSlF06_f24_ren := {
  mixed := by kernel_rfl
  f6 := ⟨Tryz.f24.name, by decide, Tryz.func24.trans (congrArg some (by kernel_rfl))⟩
  f14 := ⟨Tryz.f45.name, by decide, Tryz.func45.trans (congrArg some (by kernel_rfl))⟩
  f15 := Tryz.func46.trans (congrArg some (by kernel_rfl))
  f20 := ⟨Tryz.f61.name, by decide, Tryz.func61.trans (congrArg some (by kernel_rfl))⟩
  f21 := ⟨Tryz.f62.name, by decide, Tryz.func62.trans (congrArg some (by kernel_rfl))⟩
  f22 := ⟨Tryz.f63.name, by decide, Tryz.func63.trans (congrArg some (by kernel_rfl))⟩
  f23 := ⟨Tryz.f64.name, by decide, Tryz.func64.trans (congrArg some (by kernel_rfl))⟩
  f24 := ⟨Tryz.f65.name, by decide, Tryz.func65.trans (congrArg some (by kernel_rfl))⟩
  f25 := ⟨Tryz.f66.name, by decide, Tryz.func66.trans (congrArg some (by kernel_rfl))⟩
  f26 := ⟨Tryz.f67.name, by decide, Tryz.func67.trans (congrArg some (by kernel_rfl))⟩
  f27 := ⟨Tryz.f68.name, by decide, Tryz.func68.trans (congrArg some (by kernel_rfl))⟩
  f28 := Tryz.func69.trans (congrArg some (by kernel_rfl))
  f29 := Tryz.func70.trans (congrArg some (by kernel_rfl))
  f46 := ⟨Tryz.f81.name, by decide, Tryz.func81.trans (congrArg some (by kernel_rfl))⟩
  f47 := Tryz.func82.trans (congrArg some (by kernel_rfl))
  f48 := Tryz.func83.trans (congrArg some (by kernel_rfl))
  f49 := ⟨Tryz.f84.name, by decide, Tryz.func84.trans (congrArg some (by kernel_rfl))⟩
  f50 := ⟨Tryz.f85.name, by decide, Tryz.func85.trans (congrArg some (by kernel_rfl))⟩
  f57 := ⟨Tryz.f95.name, by decide, Tryz.func95.trans (congrArg some (by kernel_rfl))⟩
  t0 := Tryz.underlying0
  a0 := Tryz.isAgg0
  z0 := Tryz.sizeOf0
  v0 := Tryz.zeroValue0
  t3 := Tryz.underlying3
  a3 := Tryz.isAgg3
  z3 := Tryz.sizeOf3
  v3 := Tryz.zeroValue3
  t4 := Tryz.underlying4
  a4 := Tryz.isAgg4
  z4 := Tryz.sizeOf4
  v4 := Tryz.zeroValue4
  t5 := Tryz.underlying5
  a5 := Tryz.isAgg5
  z5 := Tryz.sizeOf5
  v5 := Tryz.zeroValue5
  t9 := Tryz.underlying9
  a9 := Tryz.isAgg9
  z9 := Tryz.sizeOf9
  v9 := Tryz.zeroValue9
  t22 := Tryz.underlying73
  a22 := Tryz.isAgg73
  z22 := Tryz.sizeOf73
  v22 := Tryz.zeroValue73
  t25 := Tryz.underlying80
  a25 := Tryz.isAgg80
  z25 := Tryz.sizeOf80
  v25 := Tryz.zeroValue80
  t39 := Tryz.underlying111
  a39 := Tryz.isAgg111
  z39 := Tryz.sizeOf111
  v39 := Tryz.zeroValue111
  t45 := Tryz.underlying138
  a45 := Tryz.isAgg138
  z45 := Tryz.sizeOf138
  v45 := Tryz.zeroValue138
  t46 := Tryz.underlying139
  a46 := Tryz.isAgg139
  z46 := Tryz.sizeOf139
  v46 := Tryz.zeroValue139
  t50 := Tryz.underlying54
  a50 := Tryz.isAgg54
  z50 := Tryz.sizeOf54
  v50 := Tryz.zeroValue54
  t53 := Tryz.underlying145
  a53 := Tryz.isAgg145
  z53 := Tryz.sizeOf145
  v53 := Tryz.zeroValue145
  t55 := Tryz.underlying147
  a55 := Tryz.isAgg147
  z55 := Tryz.sizeOf147
  v55 := Tryz.zeroValue147
  t66 := Tryz.underlying155
  a66 := Tryz.isAgg155
  z66 := Tryz.sizeOf155
  v66 := Tryz.zeroValue155
  t70 := Tryz.underlying159
  a70 := Tryz.isAgg159
  z70 := Tryz.sizeOf159
  v70 := Tryz.zeroValue159
  t76 := Tryz.underlying170
  a76 := Tryz.isAgg170
  z76 := Tryz.sizeOf170
  v76 := Tryz.zeroValue170
  t77 := Tryz.underlying62
  a77 := Tryz.isAgg62
  z77 := Tryz.sizeOf62
  v77 := Tryz.zeroValue62 }
open Go.RowKit Go.Lib in
/-- slices.SortFunc at no element. -/
theorem Tryz.slices_SortFunc_none (p : Option Addr) (cap : Nat) (fv : Value) (w : World) :
    Calls Tryz.prog 24 #[.slice p 0 cap, fv] w fun e w' => e = .returned (.tuple #[]) ∧ w' = w := AnyF.slices_SortFunc_none Tryz.laysSlF06_f24 p cap fv w
end Go.Proofs

/- Matching by rows (plain): the marks of the program's Match are those of a table of prefixes. No condition. -/
namespace Go.Proofs.YtcpjajjocmpkjaaGreatDoor

def rowS (prev h : Nat → Bool) : Nat → Bool
  | 0 => prev 0
  | k + 1 => prev (k + 1) || (h k && rowS prev h k)
def rowC (prev h : Nat → Bool) : Nat → Bool
  | 0 => false
  | k + 1 => h k && prev k
/-- The first i elements match the first k characters. -/
def pmF (st : Nat → Bool) (h : Nat → Nat → Bool) : Nat → Nat → Bool
  | 0, k => k == 0
  | i + 1, k => if st i = true then rowS (pmF st h i) (h i) k else rowC (pmF st h i) (h i) k
theorem pmF_zero (st : Nat → Bool) (h : Nat → Nat → Bool) (i : Nat) : pmF st h (i + 1) 0 = (st i && pmF st h i 0) := by
  simp only [pmF]; cases st i <;> simp [rowS, rowC]
theorem pmF_succ (st : Nat → Bool) (h : Nat → Nat → Bool) (i k : Nat) : pmF st h (i + 1) (k + 1) = if st i = true then pmF st h i (k + 1) || (h i k && pmF st h (i + 1) k) else h i k && pmF st h i k := by
  simp only [pmF]; cases hs : st i <;> simp [rowS, rowC]
theorem run_pm (els : List El) (s : ByteArray) : ∀ (k j : Nat), runF els s k j = if elS els j = true then pmF (elS els) (fun i k => elH els i (at8 s k)) (j + 1) k else pmF (elS els) (fun i k => elH els i (at8 s k)) j k := by
  intro k
  induction k with
  | zero =>
    have key : ∀ j, spF (elS els) (fun j => j == 0) j = pmF (elS els) (fun i k => elH els i (at8 s k)) j 0 := by
      intro j
      induction j with
      | zero => rfl
      | succ j ih => rw [pmF_zero, spF, ih]; simp
    intro j
    rw [runF, key]
    split
    · rename_i hs; rw [pmF_zero, hs]; simp
    · rfl
  | succ k ih =>
    intro j
    rw [runF]
    induction j with
    | zero =>
      rw [spF]
      simp only [stpF, ih 0]
      cases hs : elS els 0 with
      | true => rw [if_pos rfl, if_pos rfl, pmF_succ, hs, if_pos rfl, Bool.and_comm]; simp [pmF]
      | false => simp [pmF]
    | succ j ihj =>
      rw [spF, ihj]
      have h1 : ((match j + 1 with | 0 => false | i + 1 => !elS els i && runF els s k i && elH els i (at8 s k)) || (elS els j && if elS els j = true then pmF (elS els) (fun i k => elH els i (at8 s k)) (j + 1) (k + 1) else pmF (elS els) (fun i k => elH els i (at8 s k)) j (k + 1))) = pmF (elS els) (fun i k => elH els i (at8 s k)) (j + 1) (k + 1) := by
        simp only [ih j]
        rw [pmF_succ]
        cases hs : elS els j with
        | true => simp
        | false => simp [Bool.and_comm]
      unfold stpF
      rw [Bool.or_assoc, h1, ih (j + 1)]
      cases hs : elS els (j + 1) with
      | true => rw [if_pos rfl, if_pos rfl, pmF_succ _ _ (j + 1), hs, if_pos rfl, Bool.or_comm, Bool.true_and, Bool.and_comm]
      | false => simp
/-- The program's Match by the table. -/
theorem match_pm (els : List El) (s : ByteArray) : matchB els s = pmF (elS els) (fun i k => elH els i (at8 s k)) els.length s.size := by
  unfold matchB
  rw [run_pm, if_neg (by simp [elS])]

end Go.Proofs.YtcpjajjocmpkjaaGreatDoor
