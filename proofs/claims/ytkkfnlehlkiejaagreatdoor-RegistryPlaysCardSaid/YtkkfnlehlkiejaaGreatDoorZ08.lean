/- Chapter 21: a registry in the memory; the contracts of New, IsAuthority, Len, Drop, Add. The library's variable MaxLen holds a number. -/
import Derived.Test.YtkkfnlehlkiejaaGreatDoorZ07
import Derived.Test.YtkkfnlehlkiejaaGreatDoorZ06
import Derived.Maps.RangeRun
import Derived.Test.YtkkfnlehlkiejaaGreatDoorProg
import Derived.Test.YtkkfnlehlkiejaaGreatDoorZ02
import Derived.Test.YtkkfnlehlkiejaaGreatDoorZ03
import Derived.Test.YtkkfnlehlkiejaaGreatDoorZ05
import Derived.KernelRfl
import Derived.Test.YtkkfnlehlkiejaaGreatDoorZ04
import Derived.Lib.SplitLaws
import Derived.Lib.CountLaws
namespace Go.Proofs.YtkkfnlehlkiejaaGreatDoor
open Go.RowKit Go.Maps

theorem entsS_err : ∀ (ps : List ByteArray) (a : Int) (acc : List Ent) (o e : Int), entsS ps a acc = .inr (o, e) → e ≠ 0
  | [], _, _, _, _, h => by simp [entsS] at h
  | x :: r, a, acc, o, e, h => by
    unfold entsS at h
    split at h
    · simp at h; omega
    · split at h
      · rename_i o' e' hc
        simp at h
        have := (compileR_off _ _ _ hc).2
        rw [← h.2]; exact this
      · exact entsS_err r _ _ o e h
theorem listR_err {s : ByteArray} {o e : Int} (h : listR s = .inr (o, e)) : e ≠ 0 := by
  unfold listR at h
  split at h
  · simp at h; omega
  · exact entsS_err _ _ _ _ _ h

/-! ### What a map's writing leaves -/
theorem cell_ne_map {w : World} {g o mb : Nat} {v : Value} {es : Array MapEntry} {c : Nat} (h : w.cell? ⟨g, o, none⟩ = some v) (hm : w.heap[mb]? = some (.map es c)) : g ≠ mb := fun e => by
  subst e
  unfold World.cell? at h
  simp only [hm] at h
  cases h
theorem AtL.kpM {w w' : World} {g o mb : Nat} {cs : List Value} {es : Array MapEntry} {c : Nat} (h : AtL w g o cs) (hk : Kp (· = mb) w w') (hm : w.heap[mb]? = some (.map es c)) : AtL w' g o cs :=
  ⟨At_of _ _ fun j v hv => by
    have hc := h.cell hv
    exact hk.cell' hc (fun e => cell_ne_map hc hm e)⟩
theorem RowA.kpM {α : Type} {f : α → List Value} {L : Nat} {w w' : World} {p : Option Addr} {l : List α} {mb : Nat} {es : Array MapEntry} {c : Nat} (h : RowA f L w p l) (hk : Kp (· = mb) w w') (hm : w.heap[mb]? = some (.map es c)) : RowA f L w' p l := fun k y hy => by
  obtain ⟨b, o, h1, h2⟩ := h k y hy
  exact ⟨b, o, h1, h2.kpM hk hm⟩
theorem ListR.kpT {D M : Nat → Prop} {w w' : World} {b : Nat} {s : ByteArray} {es : List Ent} (h : ListR D w b s es) (hk : Kp M w w') (hm : ∀ k c t f, M k → w.heap[k]? = some (.cells c t f) → t ≠ 116 ∧ t ≠ 120 ∧ t ≠ 149 ∧ t ≠ 167) : ListR D w' b s es := by
  obtain ⟨p, n, c, bs, h1, h2, h3, h4, h5, h6⟩ := h
  refine ⟨p, n, c, bs, hk.blk h1 (fun e => (hm b _ _ _ e h1).1 rfl), h2, owns_kp h3 hk (fun k hk' e => ?_), h4, h5, fun k b' e hb he => (h6 k b' e hb he).kpT hk (fun k c t f hM hh => (hm k c t f hM hh).2.2)⟩
  obtain ⟨cc, hc⟩ := own_type h3 hk'
  exact (hm k _ _ _ e hc).2.1 rfl
theorem ListR.all {D : Nat → Prop} {w : World} {b : Nat} {s : ByteArray} {es : List Ent} (h : ListR D w b s es) : ListR (fun _ => True) w b s es := h.mono (fun _ _ _ => trivial)

/-! ### Registries -/
abbrev dfV (x : DX) : Value := .agg (dfC x).toArray
def dxz : DX := ⟨dz, none, 0⟩
def RegS (w : World) (b mb : Nat) (A : List Au) : Prop := ∃ (ap : Option Addr) (ac : Nat) (lp : Option Addr) (lc : Nat),
  w.heap[b]? = some (.cells #[.slice ap A.length ac, .slice lp A.length lc, .map (some mb)] 99 (0, 0)) ∧ RowA atC 17 w ap A ∧
  ∀ (k : Nat) (x : Au), A[k]? = some x → ∃ (g o lb : Nat) (es : List Ent), lp = some ⟨g, o, none⟩ ∧ w.cell? ⟨g, o + k, none⟩ = some (.pointer (some ⟨lb, 0, none⟩)) ∧ listR x.pt = .inl es ∧ ListR (fun _ => True) w lb x.pt es
/-- A registry in the memory: in block b, its map in block mb. -/
structure Reg (w : World) (b mb : Nat) (A : List Au) (l : List (List Int × DX)) : Prop where
  st : RegS w b mb A
  map : MapB Tryz.prog 52 byA w mb (amap dfV l)
  str : ∀ a x, aget l a = some x → RowA auC 16 w x.p x.d.ms ∧ (∀ g o, x.p = some ⟨g, o, none⟩ → b < g)
  ok : ∀ a x, aget l a = some x → dchk x.d = 0 ∧ x.d.ms.length ≤ x.c ∧ a = idI x.d.id ∧ x.d.OK
  au : ∀ x ∈ A, BY x.au
theorem zeroDf (w : World) : (zeroValue 56).run Tryz.prog w = .ok (dfV dxz) w := by kernel_rfl
section
variable {w w' : World} {b mb : Nat} {A : List Au} {l : List (List Int × DX)}
theorem RegS.k0 (h : RegS w b mb A) (hk : K0 w w') : RegS w' b mb A := by
  obtain ⟨ap, ac, lp, lc, h1, h2, h3⟩ := h
  refine ⟨ap, ac, lp, lc, hk.blk h1 (fun h => h), h2.k0 hk, fun k x hx => ?_⟩
  obtain ⟨g, o, lb, es, a1, a2, a3, a4⟩ := h3 k x hx
  exact ⟨g, o, lb, es, a1, hk.cell' a2 (fun h => h), a3, a4.kp hk (fun _ _ _ h => h)⟩
theorem RegS.kpM {es : Array MapEntry} {c : Nat} (h : RegS w b mb A) (hk : Kp (· = mb) w w') (hm : w.heap[mb]? = some (.map es c)) : RegS w' b mb A := by
  obtain ⟨ap, ac, lp, lc, h1, h2, h3⟩ := h
  refine ⟨ap, ac, lp, lc, hk.blk h1 (fun e => by have e : b = mb := e; subst e; rw [hm] at h1; cases h1), h2.kpM hk hm, fun k x hx => ?_⟩
  obtain ⟨g, o, lb, es, a1, a2, a3, a4⟩ := h3 k x hx
  exact ⟨g, o, lb, es, a1, hk.cell' a2 (fun e => cell_ne_map a2 hm e), a3, a4.kpT hk (fun k c t f e hh => by have e : k = mb := e; subst e; rw [hm] at hh; cases hh)⟩
theorem Reg.k0 (h : Reg w b mb A l) (hk : K0 w w') : Reg w' b mb A l :=
  ⟨h.st.k0 hk, h.map.kp hk (fun h => h), fun a x hx => ⟨(h.str a x hx).1.k0 hk, (h.str a x hx).2⟩, h.ok, h.au⟩
theorem Reg.cellM (h : Reg w b mb A l) : w.cell? ⟨b, 0 + 2, none⟩ = some (.map (some mb)) := by
  obtain ⟨ap, ac, lp, lc, h1, _⟩ := h.st
  exact cell_at h1 rfl
theorem Reg.look (h : Reg w b mb A l) {f : Nat → Int} (hf : BY f) : LookP Tryz.prog 96 (.map (some mb)) (.agg (arrI .u8 f 32 0).toArray) true (.tuple #[dfV ((aget l (idI f)).getD dxz), .bool (aget l (idI f)).isSome]) w := by
  have := MapB.look byA_inj h.map idKeyed Tryz.underlying96 (zeroDf w) (idKey (idI_len f) (idI_bd hf)) true
  rw [aget_amap] at this
  cases hg : aget l (idI f) with
  | none => rw [hg] at this; exact this
  | some x => rw [hg] at this; exact this
theorem Reg.upd (h : Reg w b mb A l) (x : DX) (h1 : RowA auC 16 w x.p x.d.ms) (h2 : ∀ g o, x.p = some ⟨g, o, none⟩ → b < g) (h3 : dchk x.d = 0 ∧ x.d.ms.length ≤ x.c ∧ x.d.OK) :
    ∃ w1, UpdP Tryz.prog 96 (.map (some mb)) (.agg (arrI .u8 x.d.id 32 0).toArray) (dfV x) w w1 ∧ Reg w1 b mb A (aset l (idI x.d.id) x) ∧ Kp (· = mb) w w1 := by
  obtain ⟨w1, hu, hm, hk⟩ := MapB.upd byA_inj h.map idKeyed Tryz.underlying96 (idKey (idI_len x.d.id) (idI_bd h3.2.2.id)) (dfV x)
  rw [aset_amap] at hm
  obtain ⟨es, c, hb, _⟩ := h.map.blk
  refine ⟨w1, hu, ⟨h.st.kpM hk hb, hm, fun a y hy => ?_, fun a y hy => ?_, h.au⟩, hk⟩
  · rw [aget_aset] at hy
    split at hy
    · cases hy; exact ⟨h1.kpM hk hb, h2⟩
    · exact ⟨(h.str a y hy).1.kpM hk hb, (h.str a y hy).2⟩
  · rw [aget_aset] at hy
    split at hy
    · rename_i e; cases hy; exact ⟨h3.1, h3.2.1, by first | exact e | exact e.symm, h3.2.2⟩
    · exact h.ok a y hy
theorem Reg.del (h : Reg w b mb A l) {f : Nat → Int} (hf : BY f) :
    ∃ w1, BltP Tryz.prog .delete [96, 52] [.map (some mb), .agg (arrI .u8 f 32 0).toArray] w w1 ∧ Reg w1 b mb A (adel l (idI f)) ∧ Kp (· = mb) w w1 := by
  obtain ⟨w1, hu, hm, hk⟩ := MapB.del byA_inj h.map idKeyed Tryz.underlying96 (idKey (idI_len f) (idI_bd hf))
  have e : adel (amap dfV l) (idI f) = amap dfV (adel l (idI f)) := by unfold adel amap; rw [List.filter_map]; rfl
  rw [e] at hm
  obtain ⟨es, c, hb, _⟩ := h.map.blk
  refine ⟨w1, hu, ⟨h.st.kpM hk hb, hm, fun a y hy => ?_, fun a y hy => ?_, h.au⟩, hk⟩
  · rw [aget_adel] at hy
    split at hy
    · cases hy
    · exact ⟨(h.str a y hy).1.kpM hk hb, (h.str a y hy).2⟩
  · rw [aget_adel] at hy
    split at hy
    · cases hy
    · exact h.ok a y hy
theorem Reg.len (h : Reg w b mb A l) : LenP Tryz.prog 96 (.map (some mb)) (l.length : Nat) w := by
  obtain ⟨es, c, hb, he⟩ := h.map.blk
  have hl : es.size = l.length := by
    have := congrArg List.length he
    simpa [amap] using this
  constructor
  intro ty
  simp [Builtin.len_, run_underlying Tryz.underlying96, MapKept.run_getObj_map hb, Result.andThen, hl, goInt]
end
theorem rlen_any {w : World} {b mb : Nat} {A : List Au} {l : List (List Int × DX)} (h : Reg w b mb A l) :
    Calls Tryz.prog 19 #[.pointer (some ⟨b, 0, none⟩)] w fun e w' => e = .returned (.int .i64 (l.length : Nat)) ∧ K0 w w' :=
  vc_rlen b w _ ⟨_, h.cellM, _, h.len, rfl, .refl _ _⟩
theorem isAu_step {A : List Au} {k : Nat} {x : Au} (g : ByteArray) (a : Nat → Int) (hx : A[k]? = some x) : isAu (A.drop k) g a = ((decide (auI x.au = auI a) && (match listR x.pt with | .inl es => verd es g == 1 | .inr _ => false)) || isAu (A.drop (k + 1)) g a) := by
  have hlt := (List.getElem?_eq_some_iff.1 hx).1
  have e : A.drop k = x :: A.drop (k + 1) := by
    rw [List.drop_eq_getElem_cons hlt]
    rw [List.getElem?_eq_getElem hlt] at hx
    cases hx; rfl
  rw [e]; rfl
theorem risauth_any {w : World} {b mb : Nat} {A : List Au} (h : RegS w b mb A) (hA : ∀ x ∈ A, BY x.au) (hl : A.length ≤ 64) (g : ByteArray) (a : Nat → Int) (ha : BY a) (hg : g.size ≤ 9223372036854775807) :
    Calls Tryz.prog 16 #[.pointer (some ⟨b, 0, none⟩), .string g, .agg (arrI .u8 a 16 0).toArray] w fun e w' => e = .returned (.bool (isAu A g a)) ∧ K0 w w' := by
  obtain ⟨ap, ac, lp, lc, h1, h2, h3⟩ := h
  refine vc_risauth b g a w _ (fun n => ⟨ap, A.length, ac, fun W hW => cell_at ((hW.kk rfl : K0 w W).blk h1 (fun h => h)) rfl, fun W hW => ?_⟩)
  have kW : K0 w W := hW.kk rfl
  refine ⟨fun vs w' => ∃ k : Nat, vs = [.int .i64 (k : Int)] ∧ k ≤ A.length ∧ isAu (A.drop k) g a = isAu A g a ∧ K0 w w',
    fun vs _ => (match vs with | .int _ x :: _ => A.length - x.toNat | _ => 0), ⟨0, rfl, by omega, rfl, kW⟩, ?_⟩
  rintro x w1 ⟨k, hv, hk, hI, k1⟩ _
  simp only [List.cons.injEq, Value.int.injEq, true_and, and_true] at hv
  subst hv
  refine bsp_intro (fun hlt => ?_) (fun hge => ?_)
  · have hlt : k < A.length := by simp at hlt; omega
    obtain ⟨x, b1, o1, hx, hp, hat⟩ := (h2.k0 k1).get hlt
    obtain ⟨g2, o2, lb, es, hlp, hc, hes, hL⟩ := h3 k x hx
    have hxm := List.mem_of_getElem? hx
    rw [isAu_step g a hx, hes] at hI
    have hI : ((decide (auI x.au = auI a) && (verd es g == 1)) || isAu (A.drop (k + 1)) g a) = isAu A g a := hI
    rw [Int.toNat_natCast]
    refine nn_is hp ⟨⟨by omega, by omega⟩, x.pt, x.au, hat, fun n2 => ⟨_, auEq (hA x hxm) ha, lp, A.length, lc, gimp_intro fun _ W hW => cell_at ((hW.k0 k1).blk h1 (fun h => h)) rfl, nn_is hlp ⟨gimp_intro fun _ => ⟨by omega, by omega⟩, _, gimp_intro fun _ W hW => (hW.k0 k1).cell' hc (fun h => h), fun W2 hW2 => ?_⟩⟩⟩
    have k2 : K0 w W2 := hW2.k0 k1
    have hls := listR_ok hes
    refine bsp_intro (fun hr => ?_) (fun hr => ?_)
    · refine ⟨(verdict_any (hL.kp k2 (fun _ _ _ h => h)) hls.1 hls.2 g hg).mono fun e w3 ⟨he, k3⟩ => ⟨_, he, .of_k0 k3, bsp_intro (fun h1 => ?_) (fun h1 => ?_)⟩⟩
      · have h1 : (verd es g == 1) = true := by simpa using h1
        rw [hr, h1] at hI
        rw [← hI]
        exact ⟨rfl, k2.trans k3⟩
      · have h1 : (verd es g == 1) = false := by simpa using h1
        rw [h1, Bool.and_false, Bool.false_or] at hI
        exact ⟨⟨k + 1, by rw [inc64 (by omega)], hlt, hI, k2.trans k3⟩, by rw [inc64 (by omega)]; simp only [Int.toNat_natCast]; omega⟩
    · rw [hr, Bool.false_and, Bool.false_or] at hI
      exact ⟨.refl _ _, ⟨k + 1, by rw [inc64 (by omega)], hlt, hI, k2⟩, by rw [inc64 (by omega)]; simp only [Int.toNat_natCast]; omega⟩
  · have hk2 : k = A.length := by simp at hge; omega
    subst hk2
    rw [List.drop_length] at hI
    rw [← hI]
    exact ⟨rfl, k1⟩

/-! ### Drop, Add -/
theorem rdrop_any {w : World} {b mb : Nat} {A : List Au} {l : List (List Int × DX)} (h : Reg w b mb A l) (f : Nat → Int) (hf : BY f) :
    Calls Tryz.prog 43 #[.pointer (some ⟨b, 0, none⟩), .agg (arrI .u8 f 32 0).toArray] w fun e w' => ((aget l (idI f) = none ∧ e = .returned (.int .i64 8) ∧ Reg w' b mb A l) ∨ ((aget l (idI f)).isSome = true ∧ e = .returned (.int .i64 0) ∧ Reg w' b mb A (adel l (idI f)))) ∧ Kp (· = mb) w w' := by
  refine vc_rdrop b f w _ (fun n W hW => ?_)
  have kW : K0 w W := hW.kk rfl
  have hb0 := hW.cells 0 rfl
  have hnl := block_lt hb0
  simp only at hnl
  refine ⟨fun wx => K0 W wx, .refl _ _, some mb, fun wx k => ((h.k0 kW).k0 k).cellM, f, fun wx k => AtL_block (k.blk hb0 (fun h => h)) rfl, _, _, _, _, _, _, _, _, _, _, _, fun wx k => ((h.k0 kW).k0 k).look hf, fun n2 w1 hn2 => ⟨hn2.kp _, WrL_block hn2.block (by show 0 + 54 ≤ 54; omega), fun w2 p2 => ?_⟩⟩
  have k1 : K0 W w1 := hn2.kp _
  have g2 : W.heap.size ≤ n2 := hn2.ge
  have k2 : K0 W w2 := put_k0 k1 p2 g2
  have h2 := (h.k0 kW).k0 k2
  refine ⟨.of_k0 k2, bsp_intro (fun hb => ?_) (fun hb => ⟨some mb, fun W3 hW3 => (h2.k0 (hW3.kk rfl)).cellM, fun W3 hW3 => ?_⟩)⟩
  · have : aget l (idI f) = none := by
      cases hg : aget l (idI f) with
      | none => rfl
      | some x => rw [hg] at hb; simp at hb
    exact ⟨.inl ⟨this, rfl, h2⟩, (kW.trans k2).mono fun _ _ h => h.elim⟩
  · have k3 : K0 w2 W3 := hW3.kk rfl
    obtain ⟨w4, hu, hR, k4⟩ := (h2.k0 k3).del hf
    have hs : (aget l (idI f)).isSome = true := by simpa using hb
    have hn3 := hW3.cells 0 rfl
    obtain ⟨es, c, hmb, _⟩ := (h2.k0 k3).map.blk
    refine ⟨w4, hu, .of_kp k4 (fun z hz e => ?_), .inr ⟨hs, rfl, hR⟩, ((kW.trans k2).trans k3 |>.mono fun _ _ h => h.elim).trans k4⟩
    simp only [List.mem_cons, List.not_mem_nil, or_false] at hz
    subst hz
    have e : z = mb := e
    subst e
    rw [hmb] at hn3
    cases hn3
def addE (A : List Au) (l : List (List Int × DX)) (d : Df) : Int := if dchk d ≠ 0 then dchk d else if isAu A d.g d.au = false then 20 else if (aget l (idI d.id)).isSome = true then 7 else if 4096 ≤ l.length then 9 else 0
theorem gnE_sz {g : ByteArray} (h : gnE g = 0) : g.size ≤ 80 := by
  unfold gnE at h
  split at h
  · cases h
  · omega
theorem dchk_sz {d : Df} (h : dchk d = 0) : gnE d.g = 0 ∧ 0 ≤ d.v ∧ d.v ≤ 1000000 ∧ d.ms.length ≤ 8 ∧ d.tx.size ≤ 200 := by
  unfold dchk at h
  split at h
  · rename_i h1; exact absurd h h1
  rename_i h1
  split at h
  · cases h
  rename_i h2
  split at h
  · cases h
  split at h
  · cases h
  rename_i h3
  split at h
  · cases h
  split at h
  · cases h
  rename_i h4
  exact ⟨Classical.byContradiction h1, by omega, by omega, by omega, by omega⟩
set_option maxHeartbeats 1000000 in
theorem radd_any {w : World} {b mb : Nat} {A : List Au} {l : List (List Int × DX)} (h : Reg w b mb A l) (hAl : A.length ≤ 64) (x : DX) (hR : RowA auC 16 w x.p x.d.ms) (hc : x.d.ms.length ≤ x.c) (ho : x.d.OK) (hG : GW w) :
    Calls Tryz.prog 22 #[.pointer (some ⟨b, 0, none⟩), dfV x] w fun e w' => e = .returned (.int .i64 (addE A l x.d)) ∧ ((addE A l x.d ≠ 0 ∧ Reg w' b mb A l ∧ K0 w w') ∨
      (addE A l x.d = 0 ∧ ∃ (p' : Option Addr) (c' : Nat), Reg w' b mb A (aset l (idI x.d.id) ⟨x.d, p', c'⟩) ∧ (∀ g o, p' = some ⟨g, o, none⟩ → w.heap.size ≤ g) ∧ Kp (· = mb) w w')) := by
  refine vc_radd b x.d.id x.d.au x.d.g x.d.v x.d.rm x.d.md x.p x.d.ms.length x.c x.d.tx w _ (fun n1 W hW => ?_)
  have kW : K0 w W := hW.kk rfl
  have hb0 := hW.cells 0 rfl
  have hnl := block_lt hb0
  simp only at hnl
  unfold addE
  refine ⟨(dcheck_any x W (hR.k0 kW) hc ho (hG.kp kW (fun h => h))).mono fun e w1 ⟨he, k1⟩ => ⟨_, he, .of_k0 k1, bsp_intro (fun h1 => ?_) (fun h1 => ?_)⟩⟩
  · have h1 : dchk x.d ≠ 0 := by simpa using h1
    rw [if_pos h1]
    exact ⟨rfl, .inl ⟨h1, h.k0 (kW.trans k1), kW.trans k1⟩⟩
  have h1 : dchk x.d = 0 := by simpa using h1
  have hsz := dchk_sz h1
  have hgs := gnE_sz hsz.1
  rw [if_neg (by rw [h1]; decide)]
  have k01 := kW.trans k1
  refine ⟨(risauth_any (h.k0 k01).st h.au hAl x.d.g x.d.au ho.au (by omega)).mono fun e w2 ⟨he, k2⟩ => ⟨_, he, .of_k0 k2, bsp_intro (fun h2 => ?_) (fun h2 => fun W3 hW3 => ?_)⟩⟩
  · have h2 : isAu A x.d.g x.d.au = false := by simpa using h2
    rw [if_pos h2]
    exact ⟨rfl, .inl ⟨by decide, h.k0 (k01.trans k2), k01.trans k2⟩⟩
  rw [if_neg (by simpa using h2)]
  have k3 : K0 w W3 := hW3.k0 (k01.trans k2)
  have hb3 := hW3.cells 0 rfl
  have hn3l := block_lt hb3
  simp only at hn3l
  refine ⟨fun wx => K0 W3 wx, .refl _ _, some mb, fun wx k => ((h.k0 k3).k0 k).cellM, x.d.id, fun wx k => AtL_block (k.blk hb3 (fun h => h)) rfl, _, _, _, _, _, _, _, _, _, _, _, fun wx k => ((h.k0 k3).k0 k).look ho.id, fun n4 w4 hn4 => ⟨hn4.kp _, WrL_block hn4.block (by show 0 + 54 ≤ 54; omega), fun w5 p5 => ?_⟩⟩
  have k5 : K0 W3 w5 := put_k0 (hn4.kp _) p5 hn4.ge
  have k05 := k3.trans k5
  refine ⟨.of_k0 k5, bsp_intro (fun h3 => ?_) (fun h3 => ?_)⟩
  · rw [if_pos h3]
    exact ⟨rfl, .inl ⟨by decide, h.k0 k05, k05⟩⟩
  rw [if_neg (by rw [h3]; decide)]
  refine ⟨some mb, (h.k0 k05).cellM, _, (h.k0 k05).len, bsp_intro (fun h4 => ?_) (fun h4 => fun W6 hW6 => ?_)⟩
  · have h4 : 4096 ≤ l.length := by simp at h4; omega
    rw [if_pos h4]
    exact ⟨rfl, .inl ⟨by decide, h.k0 k05, k05⟩⟩
  rw [if_neg (by simp at h4; omega)]
  have k6 : K0 w W6 := hW6.k0 k05
  have hb6 := hW6.cells 0 rfl
  refine ⟨fun wx => K0 W6 wx, .refl _ _, some mb, fun wx k => ((h.k0 k6).k0 k).cellM, x.d.id, fun wx k => AtL_block (k.blk hb6 (fun h => h)) rfl, x.d.id, x.d.au, x.d.g, x.d.v, x.d.rm, x.d.md, x.p, x.d.ms.length, x.c, x.d.tx, fun wx k => AtL_block (k.blk hb6 (fun h => h)) rfl, ?_⟩
  refine ⟨(dclone_any x W6 (hR.k0 k6) (by omega)).mono fun e w7 ⟨⟨p', c', he, hop⟩, k7⟩ => ⟨_, _, _, _, _, _, _, _, _, _, he, k7, ?_⟩⟩
  have k07 := k6.trans k7
  have hpg : ∀ g o, p' = some ⟨g, o, none⟩ → W6.heap.size ≤ g := fun g o e => by subst e; exact own_ge hop rfl
  obtain ⟨ap, ac, lp, lc, hrb, _⟩ := h.st
  have hbl := block_lt hrb
  obtain ⟨w8, hu, hR8, k8⟩ := (h.k0 k07).upd ⟨x.d, p', c'⟩ (RowA.own hop auC_length (by decide)) (fun g o e => by have := hpg g o e; have := k6.size; omega) ⟨h1, own_le hop, ho⟩
  have hn7 := k7.blk hb6 (fun h => h)
  obtain ⟨es, cc, hmb, _⟩ := (h.k0 k07).map.blk
  refine ⟨w8, hu, .of_kp ((k7.mono fun _ _ h => h.elim).trans k8) (fun z hz e => ?_), rfl, .inr ⟨rfl, p', c', hR8, fun g o e => Nat.le_trans k6.size (hpg g o e), (k07.mono fun _ _ h => h.elim).trans k8⟩⟩
  simp only [List.mem_cons, List.not_mem_nil, or_false] at hz
  subst hz
  have e : z = mb := e
  subst e
  rw [hmb] at hn7
  cases hn7

end Go.Proofs.YtkkfnlehlkiejaaGreatDoor

/- Ranges over maps: an iterator's block, what is left, a step. Generic: no program, no condition. -/
namespace Go.Proofs.YtkkfnlehlkiejaaGreatDoor
open Go.RowKit Go.Maps

/-- How many entries are left. -/
def leftN (w : World) (r b : Nat) : Nat := match w.heap[r]?, w.heap[b]? with
  | some (.mapIter _ _ seen _), some (.map es _) => (leftOf es seen).size
  | _, _ => 0
/-- Block r holds an iterator over the map in block b; todo is left. -/
structure RngB {α : Type} (enc : α → Value) (w : World) (r b : Nat) (todo : List (α × Value)) : Prop where
  h : ∃ es clock since c0 seen, w.heap[b]? = some (.map es clock) ∧ w.heap[r]? = some (.mapIter (some b) since seen c0) ∧ (∀ x ∈ es.toList, x.born < since) ∧ since ≤ c0 ∧ since ≤ clock ∧ (es.toList.map (·.born)).Nodup ∧
    (leftOf es seen).toList.map (fun e => (e.key, e.val)) = todo.map (fun p => (enc p.1, p.2))
section
variable {α : Type} {P : Program} {k t e : TypeId} {enc : α → Value} {w w1 : World} {r b : Nat} {l todo : List (α × Value)}
theorem RngB.kp {M : Nat → Prop} {w' : World} (h : RngB enc w r b todo) (hk : Kp M w w') (hr : ¬ M r) (hb : ¬ M b) : RngB enc w' r b todo := by
  obtain ⟨es, cl, si, c0, se, h1, h2, h3⟩ := h.h
  exact ⟨es, cl, si, c0, se, hk.blk h1 hb, hk.blk h2 hr, h3⟩
theorem RngB.left (h : RngB enc w r b todo) : leftN w r b = todo.length := by
  obtain ⟨es, cl, si, c0, se, h1, h2, h3, h4, h5, h6, h7⟩ := h.h
  unfold leftN
  rw [h1, h2]
  have := congrArg List.length h7
  simpa using this
theorem MapB.range (h : MapB P k enc w b l) (ht : P.underlying t = some (.map k e)) : ∃ n w1, RngP P t (.map (some b)) n w w1 ∧ RngB enc w1 n b l ∧ K0 w w1 ∧ w.heap.size ≤ n ∧ n < w1.heap.size := by
  obtain ⟨es, c, hb, he⟩ := h.blk
  obtain ⟨h1, h2⟩ := h.brn es c hb
  have hk : K0 w (w.alloc (.mapIter (some b) c #[] c)) := ⟨rfl, rfl, rfl, by simp, fun i hi _ => Below.heap_alloc _ _ _ hi⟩
  refine ⟨w.heap.size, w.alloc (.mapIter (some b) c #[] c), ⟨run_range_map w t k e b es c ht hb⟩, ⟨es, c, c, c, #[], hk.blk hb (fun h => h), heap_alloc_new _ _, h2, Nat.le_refl _, Nat.le_refl _, h1, ?_⟩, hk, Nat.le_refl _, by simp⟩
  rw [← he]
  unfold leftOf
  rw [Array.filter_eq_self.2 (fun x _ => by simp)]
theorem left_erase {L : List MapEntry} (hn : (L.map (·.born)).Nodup) {j : Nat} {x : MapEntry} (hj : L[j]? = some x) : L.filter (fun y => !(y.born == x.born)) = L.eraseIdx j := by
  induction L generalizing j with
  | nil => simp at hj
  | cons y r ih =>
    have hn' : y.born ∉ r.map (·.born) ∧ (r.map (·.born)).Nodup := List.nodup_cons.1 hn
    cases j with
    | zero =>
      have e : y = x := by simpa using hj
      subst e
      rw [List.filter_cons, if_neg (by simp), List.eraseIdx_cons_zero]
      refine List.filter_eq_self.2 fun z hz => ?_
      have : z.born ≠ y.born := fun e => hn'.1 (by rw [← e]; exact List.mem_map.2 ⟨z, hz, rfl⟩)
      simpa using this
    | succ j =>
      have hj' : r[j]? = some x := by simpa using hj
      have : y.born ≠ x.born := fun e => hn'.1 (by rw [e]; exact List.mem_map.2 ⟨x, List.mem_of_getElem? hj', rfl⟩)
      rw [List.filter_cons, if_pos (by simpa using this), List.eraseIdx_cons_succ, ih hn'.2 hj']
theorem map_erase' {β γ : Type} (f : β → γ) : ∀ (L : List β) (j : Nat), (L.eraseIdx j).map f = (L.map f).eraseIdx j
  | [], _ => by simp
  | _ :: _, 0 => rfl
  | x :: L, j + 1 => by simp [List.eraseIdx_cons_succ, map_erase' f L j]
theorem sb_same {w : World} {r : Nat} {x : Obj} (h : w.heap[r]? = some x) (o : Obj) : (ChangeMaps.setBlock w r o).heap[r]? = some o := by
  have hlt : r < w.heap.size := by
    rcases Nat.lt_or_ge r w.heap.size with h' | h'
    · exact h'
    · rw [Array.getElem?_eq_none h'] at h; cases h
  simp [ChangeMaps.setBlock, hlt]
theorem sb_other (w : World) (r : Nat) (o : Obj) {i : Nat} (h : i ≠ r) : (ChangeMaps.setBlock w r o).heap[i]? = w.heap[i]? := by
  simp [ChangeMaps.setBlock, Ne.symm h]
/-- A step. -/
theorem RngB.next (h : RngB enc w r b todo) :
    (todo = [] ∧ NxtP P (.pointer (some ⟨r, 0, none⟩)) false [] w w) ∨
    ∃ (j : Nat) (p : α × Value) (w1 : World), todo[j]? = some p ∧ NxtP P (.pointer (some ⟨r, 0, none⟩)) true [enc p.1, p.2] w w1 ∧ EntP P (.pointer (some ⟨r, 0, none⟩)) (.tuple #[enc p.1, p.2]) w1 ∧ RngB enc w1 r b (todo.eraseIdx j) ∧ Kp (· = r) w w1 := by
  obtain ⟨es, cl, si, c0, se, h1, h2, h3, h4, h5, h6, h7⟩ := h.h
  have hlen := congrArg List.length h7
  simp only [List.length_map] at hlen
  rcases run_next_at (P := P) w 0 r b si c0 se es cl h2 h1 h3 h4 with ⟨h8, _⟩ | ⟨x, hx, w1, hw1, hrun⟩
  · refine .inl ⟨List.eq_nil_of_length_eq_zero (by rw [← hlen]; simpa using h8), ⟨fun ty => ?_⟩⟩
    rcases run_next_at (P := P) w ty r b si c0 se es cl h2 h1 h3 h4 with ⟨_, h9⟩ | ⟨x, hx, _⟩
    · exact h9
    · have : leftOf es se = #[] := Array.eq_empty_of_size_eq_zero h8
      rw [this] at hx; simp at hx
  · obtain ⟨j, hj, hjx⟩ := List.getElem_of_mem hx
    have hjx' : (leftOf es se).toList[j]? = some x := by rw [List.getElem?_eq_getElem hj, hjx]
    have hp : (todo.map (fun p => (enc p.1, p.2)))[j]? = some (x.key, x.val) := by rw [← h7, List.getElem?_map, hjx']; rfl
    rw [List.getElem?_map, Option.map_eq_some_iff] at hp
    obtain ⟨p, hp, hpe⟩ := hp
    simp only [Prod.mk.injEq] at hpe
    have hkw : Kp (· = r) w (ChangeMaps.setBlock w1 r (.mapIter (some b) si (se.push x.born) cl)) := by
      have hw : Kp (· = r) w w1 := by
        rcases hw1 with rfl | rfl
        · exact .refl _ _
        · exact ⟨rfl, rfl, rfl, Nat.le_refl _, fun _ _ _ => rfl⟩
      have hr1 : w1.heap[r]? = some (.mapIter (some b) si se c0) := by rcases hw1 with rfl | rfl <;> exact h2
      exact hw.trans ⟨rfl, rfl, rfl, by simp [ChangeMaps.setBlock], fun i _ hi => sb_other _ _ _ hi⟩
    have hrb : b ≠ r := fun e => by rw [e, h2] at h1; cases h1
    have hr1 : w1.heap[r]? = some (.mapIter (some b) si se c0) := by rcases hw1 with rfl | rfl <;> exact h2
    have hb1 := hkw.blk h1 hrb
    have hr2 : (ChangeMaps.setBlock w1 r (.mapIter (some b) si (se.push x.born) cl)).heap[r]? = some (.mapIter (some b) si (se.push x.born) cl) := sb_same hr1 _
    refine .inr ⟨j, p, _, hp, ⟨fun ty => ?_⟩, ⟨?_⟩, ⟨es, cl, si, cl, se.push x.born, hb1, hr2, h3, h5, h5, h6, ?_⟩, hkw⟩
    · rw [hpe.1, hpe.2]; exact hrun
    · rw [hpe.1, hpe.2]; exact run_entry_at _ r b si se es cl x hr2 hb1 (mem_left hx).1 h6
    · rw [map_erase', ← h7, ← map_erase']
      congr 1
      have hL : ((leftOf es se).toList.map (·.born)).Nodup := by
        unfold leftOf
        rw [Array.toList_filter]
        exact h6.sublist (List.filter_sublist.map _)
      rw [← left_erase hL hjx']
      unfold leftOf
      rw [Array.toList_filter, Array.toList_filter, List.filter_filter]
      refine List.filter_congr fun y _ => ?_
      rw [contains_push]
      cases se.contains y.born <;> simp
end

end Go.Proofs.YtkkfnlehlkiejaaGreatDoor

/- The formulas of functions by the symbolic evaluator, and that each gives the call's contract. Written by a program (gen.py). No condition. -/
namespace Go.Proofs.YtkkfnlehlkiejaaGreatDoor
set_option maxRecDepth 100000
set_option linter.unusedVariables false

def VC_rcur (b : Nat) (s : ByteArray) (w : World) (R : Ending → World → Prop) : Prop :=
 ∀ (n : Nat) (W : World),
 Loc w.heap.size
 [Blk.mk n 56
 [Value.int IntKind.u8 0, Value.int IntKind.u8 0, Value.int IntKind.u8 0, Value.int IntKind.u8 0,
 Value.int IntKind.u8 0, Value.int IntKind.u8 0, Value.int IntKind.u8 0, Value.int IntKind.u8 0,
 Value.int IntKind.u8 0, Value.int IntKind.u8 0, Value.int IntKind.u8 0, Value.int IntKind.u8 0,
 Value.int IntKind.u8 0, Value.int IntKind.u8 0, Value.int IntKind.u8 0, Value.int IntKind.u8 0,
 Value.int IntKind.u8 0, Value.int IntKind.u8 0, Value.int IntKind.u8 0, Value.int IntKind.u8 0,
 Value.int IntKind.u8 0, Value.int IntKind.u8 0, Value.int IntKind.u8 0, Value.int IntKind.u8 0,
 Value.int IntKind.u8 0, Value.int IntKind.u8 0, Value.int IntKind.u8 0, Value.int IntKind.u8 0,
 Value.int IntKind.u8 0, Value.int IntKind.u8 0, Value.int IntKind.u8 0, Value.int IntKind.u8 0,
 Value.int IntKind.u8 0, Value.int IntKind.u8 0, Value.int IntKind.u8 0, Value.int IntKind.u8 0,
 Value.int IntKind.u8 0, Value.int IntKind.u8 0, Value.int IntKind.u8 0, Value.int IntKind.u8 0,
 Value.int IntKind.u8 0, Value.int IntKind.u8 0, Value.int IntKind.u8 0, Value.int IntKind.u8 0,
 Value.int IntKind.u8 0, Value.int IntKind.u8 0, Value.int IntKind.u8 0, Value.int IntKind.u8 0,
 Value.string (ByteArray.mk #[]), Value.int IntKind.i64 0, Value.bool false, Value.bool false,
 Value.slice none 0 0, Value.string (ByteArray.mk #[])]
 2]
 w W →
 CallsS Tryz.prog 31 #[Value.pointer (some (Addr.mk b 0 none)), Value.string s] W fun (e : Ending) (w' : World) =>
 ∃ (p : Option Addr),
 ∃ (n_1 : Nat),
 ∃ (c : Nat),
 e = Ending.returned (Value.slice p n_1 c) ∧
 KeptL [n] W w' ∧
 nn (!(↑n_1 : Int) == 0) p fun (b o : Nat) =>
 gimp (!(↑n_1 : Int) == 0) ((0 : Int) ≤ 0 ∧ 0 < (↑n_1 : Int)) ∧
 ∃ (x : Bool),
 gimp (!(↑n_1 : Int) == 0) (w'.cell? (Addr.mk b (o + 50) none) = some (Value.bool x)) ∧
 bsp ((↑n_1 : Int) == 0 || x)
 (∀ (W : World),
 Loc w.heap.size
 [Blk.mk n 56
 [Value.int IntKind.u8 0, Value.int IntKind.u8 0, Value.int IntKind.u8 0, Value.int IntKind.u8 0,
 Value.int IntKind.u8 0, Value.int IntKind.u8 0, Value.int IntKind.u8 0, Value.int IntKind.u8 0,
 Value.int IntKind.u8 0, Value.int IntKind.u8 0, Value.int IntKind.u8 0, Value.int IntKind.u8 0,
 Value.int IntKind.u8 0, Value.int IntKind.u8 0, Value.int IntKind.u8 0, Value.int IntKind.u8 0,
 Value.int IntKind.u8 0, Value.int IntKind.u8 0, Value.int IntKind.u8 0, Value.int IntKind.u8 0,
 Value.int IntKind.u8 0, Value.int IntKind.u8 0, Value.int IntKind.u8 0, Value.int IntKind.u8 0,
 Value.int IntKind.u8 0, Value.int IntKind.u8 0, Value.int IntKind.u8 0, Value.int IntKind.u8 0,
 Value.int IntKind.u8 0, Value.int IntKind.u8 0, Value.int IntKind.u8 0, Value.int IntKind.u8 0,
 Value.int IntKind.u8 0, Value.int IntKind.u8 0, Value.int IntKind.u8 0, Value.int IntKind.u8 0,
 Value.int IntKind.u8 0, Value.int IntKind.u8 0, Value.int IntKind.u8 0, Value.int IntKind.u8 0,
 Value.int IntKind.u8 0, Value.int IntKind.u8 0, Value.int IntKind.u8 0, Value.int IntKind.u8 0,
 Value.int IntKind.u8 0, Value.int IntKind.u8 0, Value.int IntKind.u8 0, Value.int IntKind.u8 0,
 Value.string (ByteArray.mk #[]), Value.int IntKind.i64 0, Value.bool false, Value.bool false,
 Value.slice none 0 0, Value.string (ByteArray.mk #[])]
 (wrM 0)]
 w' W →
 R
 (Ending.returned
 (Value.tuple
 #[Value.agg
 #[Value.int IntKind.u8 0, Value.int IntKind.u8 0, Value.int IntKind.u8 0, Value.int IntKind.u8 0,
 Value.int IntKind.u8 0, Value.int IntKind.u8 0, Value.int IntKind.u8 0, Value.int IntKind.u8 0,
 Value.int IntKind.u8 0, Value.int IntKind.u8 0, Value.int IntKind.u8 0, Value.int IntKind.u8 0,
 Value.int IntKind.u8 0, Value.int IntKind.u8 0, Value.int IntKind.u8 0, Value.int IntKind.u8 0,
 Value.int IntKind.u8 0, Value.int IntKind.u8 0, Value.int IntKind.u8 0, Value.int IntKind.u8 0,
 Value.int IntKind.u8 0, Value.int IntKind.u8 0, Value.int IntKind.u8 0, Value.int IntKind.u8 0,
 Value.int IntKind.u8 0, Value.int IntKind.u8 0, Value.int IntKind.u8 0, Value.int IntKind.u8 0,
 Value.int IntKind.u8 0, Value.int IntKind.u8 0, Value.int IntKind.u8 0, Value.int IntKind.u8 0,
 Value.int IntKind.u8 0, Value.int IntKind.u8 0, Value.int IntKind.u8 0, Value.int IntKind.u8 0,
 Value.int IntKind.u8 0, Value.int IntKind.u8 0, Value.int IntKind.u8 0, Value.int IntKind.u8 0,
 Value.int IntKind.u8 0, Value.int IntKind.u8 0, Value.int IntKind.u8 0, Value.int IntKind.u8 0,
 Value.int IntKind.u8 0, Value.int IntKind.u8 0, Value.int IntKind.u8 0, Value.int IntKind.u8 0,
 Value.string (ByteArray.mk #[]), Value.int IntKind.i64 0, Value.bool false, Value.bool false,
 Value.slice none 0 0, Value.string (ByteArray.mk #[])],
 Value.bool false]))
 W)
 (nn true p fun (b o : Nat) =>
 ((0 : Int) ≤ 0 ∧ 0 < (↑n_1 : Int)) ∧
 ∃ (f : Nat → Int),
 ∃ (f_1 : Nat → Int),
 ∃ (x : ByteArray),
 ∃ (x_1 : Int),
 ∃ (x_2 : Bool),
 ∃ (x_3 : Bool),
 ∃ (p : Option Addr),
 ∃ (n_2 : Nat),
 ∃ (c : Nat),
 ∃ (x_4 : ByteArray),
 AtL w' b o
 (arrI IntKind.u8 f 32 0 ++ (arrI IntKind.u8 f_1 16 0 ++ [Value.string x, Value.int IntKind.i64 x_1, Value.bool x_2, Value.bool x_3,
 Value.slice p n_2 c, Value.string x_4])) ∧
 ∀ (W : World),
 Loc w.heap.size
 [Blk.mk n 56
 (arrI IntKind.u8 f 32 0 ++ (arrI IntKind.u8 f_1 16 0 ++ [Value.string x, Value.int IntKind.i64 x_1,
 Value.bool x_2, Value.bool x_3, Value.slice p n_2 c, Value.string x_4]))
 (wrM 0)]
 w' W →
 R
 (Ending.returned
 (Value.tuple
 #[Value.agg
 (arrI IntKind.u8 f 32 0 ++ (arrI IntKind.u8 f_1 16 0 ++ [Value.string x,
 Value.int IntKind.i64 x_1, Value.bool x_2, Value.bool x_3, Value.slice p n_2 c,
 Value.string x_4])).toArray,
 Value.bool true]))
 W)
theorem vc_rcur (b : Nat) (s : ByteArray) (w : World) (R : Ending → World → Prop) (h : VC_rcur b s w R) : Calls Tryz.prog 29 ([Value.pointer
    (some { block := b, off := 0 }),
  Value.string s] : List Value).toArray w R := by
  have e : execR2 { P := Tryz.prog, loops := [], pur := pur1, tails := [], joins := [], boxes := [] } Tryz.f29.results.toList R (Tryz.f29.body.getD .skip) (initF [Value.pointer
    (some { block := b, off := 0 }),
  Value.string
    s] (Tryz.f29.ntmps - ([Value.pointer (some { block := b, off := 0 }),
  Value.string s] : List Value).length)) w = VC_rcur b s w R := by kernel_rfl
  have hb : Tryz.f29.body = some (Tryz.f29.body.getD .skip) := by kernel_rfl
  exact calls_of_exec2' (P := Tryz.prog) (fn := Tryz.f29) (c := Tryz.f29.body.getD .skip) (args := [Value.pointer
    (some { block := b, off := 0 }),
  Value.string s]) (w := w) (R := R) pur1_ok Tryz.func29 hb e h

def VC_rmod (b : Nat) (s : ByteArray) (w : World) (R : Ending → World → Prop) : Prop :=
 CallsS Tryz.prog 29 #[Value.pointer (some (Addr.mk b 0 none)), Value.string s] w fun (e : Ending) (w' : World) =>
 ∃ (f : Nat → Int),
 ∃ (f_1 : Nat → Int),
 ∃ (x : ByteArray),
 ∃ (x_1 : Int),
 ∃ (x_2 : Bool),
 ∃ (x_3 : Bool),
 ∃ (p : Option Addr),
 ∃ (n : Nat),
 ∃ (c : Nat),
 ∃ (x_4 : ByteArray),
 ∃ (x_5 : Bool),
 e =
 Ending.returned
 (Value.tuple
 #[Value.agg
 (arrI IntKind.u8 f 32 0 ++ (arrI IntKind.u8 f_1 16 0 ++ [Value.string x, Value.int IntKind.i64 x_1, Value.bool x_2, Value.bool x_3, Value.slice p n c,
 Value.string x_4])).toArray,
 Value.bool x_5]) ∧
 KeptL [] w w' ∧
 ∀ (n_1 : Nat),
 ∃ (x_6 : Bool),
 gimp x_5
 (∀ (W : World),
 Loc w.heap.size
 [Blk.mk n_1 56
 (arrI IntKind.u8 f 32 0 ++ (arrI IntKind.u8 f_1 16 0 ++ [Value.string x, Value.int IntKind.i64 x_1, Value.bool x_2, Value.bool x_3, Value.slice p n c,
 Value.string x_4]))
 (wrM 2)]
 w' W →
 W.cell? (Addr.mk n_1 (0 + 51) none) = some (Value.bool x_6)) ∧
 ∀ (W : World),
 Loc w.heap.size
 [Blk.mk n_1 56
 (arrI IntKind.u8 f 32 0 ++ (arrI IntKind.u8 f_1 16 0 ++ [Value.string x, Value.int IntKind.i64 x_1, Value.bool x_2, Value.bool x_3, Value.slice p n c,
 Value.string x_4]))
 (wrM 2)]
 w' W →
 R (Ending.returned (Value.bool (x_5 && x_6))) W
theorem vc_rmod (b : Nat) (s : ByteArray) (w : World) (R : Ending → World → Prop) (h : VC_rmod b s w R) : Calls Tryz.prog 32 ([Value.pointer
    (some { block := b, off := 0 }),
  Value.string s] : List Value).toArray w R := by
  have e : execR2 { P := Tryz.prog, loops := [], pur := pur1, tails := [], joins := [], boxes := [] } Tryz.f32.results.toList R (Tryz.f32.body.getD .skip) (initF [Value.pointer
    (some { block := b, off := 0 }),
  Value.string
    s] (Tryz.f32.ntmps - ([Value.pointer (some { block := b, off := 0 }),
  Value.string s] : List Value).length)) w = VC_rmod b s w R := by kernel_rfl
  have hb : Tryz.f32.body = some (Tryz.f32.body.getD .skip) := by kernel_rfl
  exact calls_of_exec2' (P := Tryz.prog) (fn := Tryz.f32) (c := Tryz.f32.body.getD .skip) (args := [Value.pointer
    (some { block := b, off := 0 }),
  Value.string s]) (w := w) (R := R) pur1_ok Tryz.func32 hb e h

def VC_rever (b : Nat) (s : ByteArray) (a : Nat → Int) (w : World) (R : Ending → World → Prop) : Prop :=
 ∀ (n n_1 : Nat) (W : World),
 Loc w.heap.size
 [Blk.mk n_1 53
 (arrI IntKind.u8 a 16 0)
 2,
 Blk.mk n 9 [Value.string s] 2]
 w W →
 CallsS Tryz.prog 50
 #[Value.pointer (some (Addr.mk b 0 none)),
 Value.func (Fn.func 51) #[] #[Value.pointer (some (Addr.mk n 0 none)), Value.pointer (some (Addr.mk n_1 0 none))]]
 W fun (e : Ending) (w' : World) =>
 ∃ (p : Option Addr),
 ∃ (n : Nat),
 ∃ (c : Nat),
 e = Ending.returned (Value.slice p n c) ∧
 KeptL [] W w' ∧ R (Ending.returned (Value.bool (decide ((↑n : Int) > 0)))) w'
theorem vc_rever (b : Nat) (s : ByteArray) (a : Nat → Int) (w : World) (R : Ending → World → Prop) (h : VC_rever b s a w R) : Calls Tryz.prog 20 ([Value.pointer
    (some { block := b, off := 0 }),
  Value.string s, Value.agg (arrI IntKind.u8 a 16 0).toArray] : List Value).toArray w R := by
  have e : execR2 { P := Tryz.prog, loops := [], pur := pur1, tails := [], joins := [], boxes := [] } Tryz.f20.results.toList R (Tryz.f20.body.getD .skip) (initF [Value.pointer
    (some { block := b, off := 0 }),
  Value.string s,
  Value.agg
    (arrI IntKind.u8 a 16
        0).toArray] (Tryz.f20.ntmps - ([Value.pointer (some { block := b, off := 0 }), Value.string s,
  Value.agg (arrI IntKind.u8 a 16 0).toArray] : List Value).length)) w = VC_rever b s a w R := by kernel_rfl
  have hb : Tryz.f20.body = some (Tryz.f20.body.getD .skip) := by kernel_rfl
  exact calls_of_exec2' (P := Tryz.prog) (fn := Tryz.f20) (c := Tryz.f20.body.getD .skip) (args := [Value.pointer
    (some { block := b, off := 0 }),
  Value.string s, Value.agg (arrI IntKind.u8 a 16 0).toArray]) (w := w) (R := R) pur1_ok Tryz.func20 hb e h

def VC_rvers (b : Nat) (s : ByteArray) (w : World) (R : Ending → World → Prop) : Prop :=
 ∀ (n : Nat) (W : World),
 Loc w.heap.size [Blk.mk n 9 [Value.string s] 2] w W →
 CallsS Tryz.prog 50
 #[Value.pointer (some (Addr.mk b 0 none)), Value.func (Fn.func 57) #[] #[Value.pointer (some (Addr.mk n 0 none))]] W
 fun (e : Ending) (w' : World) =>
 ∃ (p : Option Addr),
 ∃ (n : Nat),
 ∃ (c : Nat), e = Ending.returned (Value.slice p n c) ∧ KeptL [] W w' ∧ R (Ending.returned (Value.slice p n c)) w'
theorem vc_rvers (b : Nat) (s : ByteArray) (w : World) (R : Ending → World → Prop) (h : VC_rvers b s w R) : Calls Tryz.prog 31 ([Value.pointer
    (some { block := b, off := 0 }),
  Value.string s] : List Value).toArray w R := by
  have e : execR2 { P := Tryz.prog, loops := [], pur := pur1, tails := [], joins := [], boxes := [] } Tryz.f31.results.toList R (Tryz.f31.body.getD .skip) (initF [Value.pointer
    (some { block := b, off := 0 }),
  Value.string
    s] (Tryz.f31.ntmps - ([Value.pointer (some { block := b, off := 0 }),
  Value.string s] : List Value).length)) w = VC_rvers b s w R := by kernel_rfl
  have hb : Tryz.f31.body = some (Tryz.f31.body.getD .skip) := by kernel_rfl
  exact calls_of_exec2' (P := Tryz.prog) (fn := Tryz.f31) (c := Tryz.f31.body.getD .skip) (args := [Value.pointer
    (some { block := b, off := 0 }),
  Value.string s]) (w := w) (R := R) pur1_ok Tryz.func31 hb e h

def VC_reverC (id : Nat → Int) (au : Nat → Int) (g : ByteArray) (v : Int) (rm : Bool) (md : Bool) (p : Option Addr) (n : Nat) (c : Nat) (t : ByteArray) (b1 : Nat) (o1 : Nat) (b2 : Nat) (o2 : Nat) (w : World) (R : Ending → World → Prop) : Prop :=
 ∀ (n_1 : Nat),
 ∃ (x : ByteArray),
 (∀ (W : World),
 Loc w.heap.size
 [Blk.mk n_1 56
 (arrI IntKind.u8 id 32 0 ++ (arrI IntKind.u8 au 16 0 ++ [Value.string g,
 Value.int IntKind.i64 v, Value.bool rm, Value.bool md, Value.slice p n c, Value.string t]))
 2]
 w W →
 W.cell? (Addr.mk b1 o1 none) = some (Value.string x)) ∧
 ∃ (p_1 : Option Addr),
 ∃ (n_2 : Nat),
 ∃ (c_1 : Nat),
 gimp (g.toList == x.toList)
 (∀ (W : World),
 Loc w.heap.size
 [Blk.mk n_1 56
 (arrI IntKind.u8 id 32 0 ++ (arrI IntKind.u8 au 16 0 ++ [Value.string g,
 Value.int IntKind.i64 v, Value.bool rm, Value.bool md, Value.slice p n c, Value.string t]))
 2]
 w W →
 W.cell? (Addr.mk n_1 (0 + 52) none) = some (Value.slice p_1 n_2 c_1)) ∧
 ∃ (f : Nat → Int),
 gimp (g.toList == x.toList)
 (∀ (W : World),
 Loc w.heap.size
 [Blk.mk n_1 56
 (arrI IntKind.u8 id 32 0 ++ (arrI IntKind.u8 au 16 0 ++ [Value.string g, Value.int IntKind.i64 v, Value.bool rm, Value.bool md, Value.slice p n c,
 Value.string t]))
 2]
 w W →
 AtL W b2 o2
 (arrI IntKind.u8 f 16 0)) ∧
 ∀ (W : World),
 Loc w.heap.size
 [Blk.mk n_1 56
 (arrI IntKind.u8 id 32 0 ++ (arrI IntKind.u8 au 16 0 ++ [Value.string g,
 Value.int IntKind.i64 v, Value.bool rm, Value.bool md, Value.slice p n c, Value.string t]))
 2]
 w W →
 bsp (g.toList == x.toList)
 (CallsS Tryz.prog 52
 #[Value.slice p_1 n_2 c_1,
 Value.agg
 (arrI IntKind.u8 f 16 0).toArray]
 W fun (e : Ending) (w' : World) =>
 ∃ (x : Bool),
 e = Ending.returned (Value.bool x) ∧ KeptL [n_1] W w' ∧ R (Ending.returned (Value.bool (true && x))) w')
 (KeptL [n_1] W W ∧ R (Ending.returned (Value.bool false)) W)
theorem vc_reverC (id : Nat → Int) (au : Nat → Int) (g : ByteArray) (v : Int) (rm : Bool) (md : Bool) (p : Option Addr) (n : Nat) (c : Nat) (t : ByteArray) (b1 : Nat) (o1 : Nat) (b2 : Nat) (o2 : Nat) (w : World) (R : Ending → World → Prop) (h : VC_reverC id au g v rm md p n c t b1 o1 b2 o2 w R) : Calls Tryz.prog 51 ([Value.agg
    (arrI IntKind.u8 id 32 0 ++
        (arrI IntKind.u8 au 16 0 ++
          [Value.string g, Value.int IntKind.i64 v, Value.bool rm, Value.bool md, Value.slice p n c,
            Value.string t])).toArray,
  Value.pointer (some { block := b1, off := o1 }),
  Value.pointer (some { block := b2, off := o2 })] : List Value).toArray w R := by
  have e : execR2 { P := Tryz.prog, loops := [], pur := pur1, tails := [], joins := [], boxes := [] } Tryz.f51.results.toList R (Tryz.f51.body.getD .skip) (initF [Value.agg
    (arrI IntKind.u8 id 32 0 ++
        (arrI IntKind.u8 au 16 0 ++
          [Value.string g, Value.int IntKind.i64 v, Value.bool rm, Value.bool md, Value.slice p n c,
            Value.string t])).toArray,
  Value.pointer (some { block := b1, off := o1 }),
  Value.pointer
    (some
      { block := b2,
        off :=
          o2 })] (Tryz.f51.ntmps - ([Value.agg
    (arrI IntKind.u8 id 32 0 ++
        (arrI IntKind.u8 au 16 0 ++
          [Value.string g, Value.int IntKind.i64 v, Value.bool rm, Value.bool md, Value.slice p n c,
            Value.string t])).toArray,
  Value.pointer (some { block := b1, off := o1 }),
  Value.pointer
    (some
      { block := b2,
        off := o2 })] : List Value).length)) w = VC_reverC id au g v rm md p n c t b1 o1 b2 o2 w R := by kernel_rfl
  have hb : Tryz.f51.body = some (Tryz.f51.body.getD .skip) := by kernel_rfl
  exact calls_of_exec2' (P := Tryz.prog) (fn := Tryz.f51) (c := Tryz.f51.body.getD .skip) (args := [Value.agg
    (arrI IntKind.u8 id 32 0 ++
        (arrI IntKind.u8 au 16 0 ++
          [Value.string g, Value.int IntKind.i64 v, Value.bool rm, Value.bool md, Value.slice p n c,
            Value.string t])).toArray,
  Value.pointer (some { block := b1, off := o1 }),
  Value.pointer (some { block := b2, off := o2 })]) (w := w) (R := R) pur1_ok Tryz.func51 hb e h

def VC_rversC (id : Nat → Int) (au : Nat → Int) (g : ByteArray) (v : Int) (rm : Bool) (md : Bool) (p : Option Addr) (n : Nat) (c : Nat) (t : ByteArray) (b1 : Nat) (o1 : Nat) (w : World) (R : Ending → World → Prop) : Prop :=
 ∀ (n_1 : Nat),
 ∃ (x : ByteArray),
 (∀ (W : World),
 Loc w.heap.size
 [Blk.mk n_1 56
 (arrI IntKind.u8 id 32 0 ++ (arrI IntKind.u8 au 16 0 ++ [Value.string g,
 Value.int IntKind.i64 v, Value.bool rm, Value.bool md, Value.slice p n c, Value.string t]))
 2]
 w W →
 W.cell? (Addr.mk b1 o1 none) = some (Value.string x)) ∧
 ∀ (W : World),
 Loc w.heap.size
 [Blk.mk n_1 56
 (arrI IntKind.u8 id 32 0 ++ (arrI IntKind.u8 au 16 0 ++ [Value.string g,
 Value.int IntKind.i64 v, Value.bool rm, Value.bool md, Value.slice p n c, Value.string t]))
 2]
 w W →
 R (Ending.returned (Value.bool (g.toList == x.toList))) W
theorem vc_rversC (id : Nat → Int) (au : Nat → Int) (g : ByteArray) (v : Int) (rm : Bool) (md : Bool) (p : Option Addr) (n : Nat) (c : Nat) (t : ByteArray) (b1 : Nat) (o1 : Nat) (w : World) (R : Ending → World → Prop) (h : VC_rversC id au g v rm md p n c t b1 o1 w R) : Calls Tryz.prog 57 ([Value.agg
    (arrI IntKind.u8 id 32 0 ++
        (arrI IntKind.u8 au 16 0 ++
          [Value.string g, Value.int IntKind.i64 v, Value.bool rm, Value.bool md, Value.slice p n c,
            Value.string t])).toArray,
  Value.pointer (some { block := b1, off := o1 })] : List Value).toArray w R := by
  have e : execR2 { P := Tryz.prog, loops := [], pur := pur1, tails := [], joins := [], boxes := [] } Tryz.f57.results.toList R (Tryz.f57.body.getD .skip) (initF [Value.agg
    (arrI IntKind.u8 id 32 0 ++
        (arrI IntKind.u8 au 16 0 ++
          [Value.string g, Value.int IntKind.i64 v, Value.bool rm, Value.bool md, Value.slice p n c,
            Value.string t])).toArray,
  Value.pointer
    (some
      { block := b1,
        off :=
          o1 })] (Tryz.f57.ntmps - ([Value.agg
    (arrI IntKind.u8 id 32 0 ++
        (arrI IntKind.u8 au 16 0 ++
          [Value.string g, Value.int IntKind.i64 v, Value.bool rm, Value.bool md, Value.slice p n c,
            Value.string t])).toArray,
  Value.pointer
    (some
      { block := b1,
        off := o1 })] : List Value).length)) w = VC_rversC id au g v rm md p n c t b1 o1 w R := by kernel_rfl
  have hb : Tryz.f57.body = some (Tryz.f57.body.getD .skip) := by kernel_rfl
  exact calls_of_exec2' (P := Tryz.prog) (fn := Tryz.f57) (c := Tryz.f57.body.getD .skip) (args := [Value.agg
    (arrI IntKind.u8 id 32 0 ++
        (arrI IntKind.u8 au 16 0 ++
          [Value.string g, Value.int IntKind.i64 v, Value.bool rm, Value.bool md, Value.slice p n c,
            Value.string t])).toArray,
  Value.pointer (some { block := b1, off := o1 })]) (w := w) (R := R) pur1_ok Tryz.func57 hb e h

end Go.Proofs.YtkkfnlehlkiejaaGreatDoor

/- Chapter 21: the contracts of pick, Versions, Current, Moderated, EverModerator. No condition but sizes. -/
namespace Go.Proofs.YtkkfnlehlkiejaaGreatDoor
open Go.RowKit Go.Maps

theorem erase_perm {α : Type} : ∀ (l : List α) (j : Nat) (x : α), l[j]? = some x → (x :: l.eraseIdx j).Perm l
  | [], _, _, h => by simp at h
  | y :: r, 0, x, h => by
    have e : y = x := by simpa using h
    subst e; exact .refl _
  | y :: r, j + 1, x, h => by
    rw [List.eraseIdx_cons_succ]
    exact (List.Perm.swap y x _).trans ((erase_perm r j x (by simpa using h)).cons y)
theorem own_types {w : World} {b1 b2 : Nat} {e1 e2 : TypeId} {s1 s2 : Nat} {v1 v2 : Value} {n1 n2 : Nat} {x1 x2 : List Value} (h1 : w.ownsRow b1 e1 s1 v1 n1 x1) (h2 : w.ownsRow b2 e2 s2 v2 n2 x2) (he : e1 ≠ e2) {k : Nat} (k1 : v1.ownBlock = some k) (k2 : v2.ownBlock = some k) : False := by
  obtain ⟨c1, hc1⟩ := own_type h1 k1
  obtain ⟨c2, hc2⟩ := own_type h2 k2
  rw [hc1] at hc2
  simp only [Option.some.injEq, Obj.cells.injEq] at hc2
  exact he hc2.2.1
/-- The moderators of a definition, in memory of their own. -/
def MO (w : World) (B : Nat) (x : DX) : Prop := w.ownsRow B 53 16 (.slice x.p x.d.ms.length x.c) x.d.ms.length (x.d.ms.flatMap auC)
theorem MO.kp {w w' : World} {B : Nat} {x : DX} (h : MO w B x) {M : Nat → Prop} (hk : Kp M w w') (hm : ∀ k, (Value.slice x.p x.d.ms.length x.c).ownBlock = some k → ¬ M k) : MO w' B x := owns_kp h hk hm
theorem MO.k0 {w w' : World} {B : Nat} {x : DX} (h : MO w B x) (hk : K0 w w') : MO w' B x := owns_kp h hk (fun _ _ h => h)
theorem MO.row {w : World} {B : Nat} {x : DX} (h : MO w B x) : RowA auC 16 w x.p x.d.ms := RowA.own h auC_length (by decide)
theorem MO.grown {w w' : World} {B B2 : Nat} {x : DX} (h : MO w B x) {v : Value} {n : Nat} {xs : List Value} (ho : w.ownsRow B2 56 54 v n xs) (hk : Kp (fun k => v.ownBlock = some k) w w') : MO w' B x :=
  owns_kp h hk (fun _ k1 k2 => own_types h ho (by decide) k1 k2)
def accL (acc : DX → Bool) (l : List (List Int × DX)) : List Df := ((l.map (·.2)).filter acc).map (·.d)
theorem accL_perm {acc : DX → Bool} {l : List (List Int × DX)} {j : Nat} {q : List Int × DX} (hj : l[j]? = some q) : ((if acc q.2 = true then [q.2.d] else []) ++ accL acc (l.eraseIdx j)).Perm (accL acc l) := by
  have h1 := ((((erase_perm l j q hj).map (·.2)).filter acc).map (fun x : DX => x.d))
  unfold accL
  rw [List.map_cons, List.filter_cons] at h1
  by_cases h : acc q.2 = true
  · rw [if_pos h] at h1 ⊢; exact h1
  · rw [if_neg h] at h1 ⊢; exact h1
set_option maxHeartbeats 2000000 in
theorem rpick_any {w : World} {b mb : Nat} {A : List Au} {l : List (List Int × DX)} (h : Reg w b mb A l) (hl : l.length ≤ 4096) (f : FuncId) (fa fb : Array Value) (hok : okFn Tryz.prog f = true) (acc : DX → Bool)
    (hF : ∀ q ∈ l, ∀ w1, K0 w w1 → Calls Tryz.prog f (appA fa [dfV q.2] fb) w1 fun e w2 => e = .returned (.bool (acc q.2)) ∧ K0 w1 w2) :
    Calls Tryz.prog 50 #[.pointer (some ⟨b, 0, none⟩), .func (.func f) fa fb] w fun e w' => (∃ (cs : List DX) (p : Option Addr) (c : Nat), e = .returned (.slice p cs.length c) ∧ w'.ownsRow w.heap.size 56 54 (.slice p cs.length c) cs.length (cs.flatMap dfC) ∧
      (cs.map (·.d)).Perm (accL acc l) ∧ cs.Pairwise (fun x y => ¬ cfD y x < 0) ∧ ∀ x ∈ cs, MO w' w.heap.size x) ∧ K0 w w' := by
  have hmw := h.map.lt
  refine vc_rpick b f fa fb w _ ⟨some mb, h.cellM, ?_⟩
  obtain ⟨r, w1, hrun, hR, k1, gr, rlt⟩ := h.map.range (t := 96) Tryz.underlying96
  refine ⟨r, w1, hrun, .of_k0 k1, ?_⟩
  have gw1 : w.heap.size ≤ w1.heap.size := k1.size
  refine ⟨fun vs w' => ∃ (cs : List DX) (todo : List (List Int × DX)) (p : Option Addr) (c : Nat), vs = [.slice p cs.length c] ∧ RngB byA w' r mb (amap dfV todo) ∧ todo.Sublist l ∧ cs.length + todo.length ≤ l.length ∧ (cs.map (·.d) ++ accL acc todo).Perm (accL acc l) ∧
      w'.ownsRow w1.heap.size 56 54 (.slice p cs.length c) cs.length (cs.flatMap dfC) ∧ (∀ x ∈ cs, MO w' w1.heap.size x) ∧ Kp (· = r) w1 w',
    fun _ w' => leftN w' r mb, ⟨[], l, none, 0, rfl, hR, .refl _, by simp, .refl _, World.ownsRow_nil _ _ _ _, (fun x hx => by cases hx), .refl _ _⟩, ?_⟩
  rintro p0 n0 c0 w2 ⟨cs, todo, p, c, hv, hR2, hsub, hlen, hperm, ho2, hM2, k2⟩
  simp only [List.cons.injEq, Value.slice.injEq, and_true] at hv
  obtain ⟨rfl, rfl, rfl⟩ := hv
  have kw2 : K0 w w2 := k1.fresh k2 (fun j hj e => by omega)
  rcases hR2.next (P := Tryz.prog) with ⟨hnil, hnx⟩ | ⟨j, q, w3, hj, hnx, hent, hR3, k3⟩
  · have htodo : todo = [] := by
      cases todo with
      | nil => rfl
      | cons x t => simp [amap] at hnil
    subst htodo
    refine ⟨false, [], w2, hnx, .refl _ _, bsp_intro (fun h => by cases h) (fun _ => ?_)⟩
    refine ⟨(psort_any cs p0 c0 w2 ho2 (by omega)).mono fun e w3 ⟨he, cs', hp, hs, ho3, k3⟩ => ⟨he, ⟨k3.size, fun x hx => by cases hx⟩, ⟨cs', p0, c0, by rw [hp.length_eq], own_base ho3 gw1, ?_, hs, fun x hx => ?_⟩, kw2.fresh k3 (fun j hj e => by have := own_ge ho2 e; omega)⟩⟩
    · have hperm : (cs.map (fun x : DX => x.d) ++ []).Perm (accL acc l) := hperm
      rw [List.append_nil] at hperm
      exact (hp.map _).trans hperm
    · exact own_base ((hM2 x (hp.subset hx)).grown ho2 k3) gw1
  · have hj' : ((todo.map fun p => (p.1, dfV p.2)))[j]? = some q := hj
    rw [List.getElem?_map, Option.map_eq_some_iff] at hj'
    obtain ⟨q, hqj, rfl⟩ := hj'
    have hmem : q ∈ l := hsub.subset (List.mem_of_getElem? hqj)
    have hdis : l.Pairwise fun p q => p.1 ≠ q.1 := by
      have := h.map.dis
      unfold amap at this
      rw [List.pairwise_map] at this
      exact this
    have hag : aget l q.1 = some q.2 := aget_at hdis hmem
    obtain ⟨_, hqc, hqk, hqo⟩ := h.ok _ _ hag
    have hqr := (h.str _ _ hag).1
    have hqz := dchk_sz (h.ok _ _ hag).1
    have her : (amap dfV todo).eraseIdx j = amap dfV (todo.eraseIdx j) := by unfold amap; rw [map_erase']
    rw [her] at hR3
    have hjl := (List.getElem?_eq_some_iff.1 hqj).1
    have helen : (todo.eraseIdx j).length = todo.length - 1 := List.length_eraseIdx_of_lt hjl
    have hpm := accL_perm (acc := acc) hqj
    have hl2 := hR2.left
    have hlam : (amap dfV todo).length = todo.length := by simp [amap]
    have hlam3 : (amap dfV (todo.eraseIdx j)).length = todo.length - 1 := by simp [amap, helen]
    have hr3 : r < w3.heap.size := by
      have := k2.size; have := k3.size; omega
    have kw3 : K0 w w3 := kw2.fresh k3 (fun j hj e => by omega)
    have hent : EntP Tryz.prog (.pointer (some ⟨r, 0, none⟩)) (.tuple #[byA q.1, dfV q.2]) w3 := hent
    rw [hqk] at hent
    have hMr : ∀ x ∈ cs, MO w3 w1.heap.size x := fun x hx => (hM2 x hx).kp k3 (fun k hk e => by have := own_ge (hM2 x hx) hk; omega)
    refine ⟨true, _, w3, hnx, .of_kp k3 (fun y hy e => by cases hy), bsp_intro (fun _ => ?_) (fun h => by cases h)⟩
    have ho3 := owns_kp ho2 k3 (fun k hk e => by have := own_ge ho2 hk; omega)
    refine ⟨q.2.d.id, q.2.d.id, q.2.d.au, q.2.d.g, q.2.d.v, q.2.d.rm, q.2.d.md, q.2.p, q.2.d.ms.length, q.2.c, q.2.d.tx, hent, fun n4 W5 hW5 => ⟨f, fa, fb, rfl, hok, ?_⟩⟩
    have k5 : K0 w3 W5 := hW5.kk rfl
    have kw5 := kw3.trans k5
    refine ⟨(hF q hmem W5 kw5).mono fun e w6 ⟨he, k6⟩ => ⟨_, he, .of_k0 k6, bsp_intro (fun hd => ?_) (fun hd => ?_)⟩⟩
    · have kw6 := kw5.trans k6
      refine ⟨(dclone_any q.2 w6 (hqr.k0 kw6) (by omega)).mono fun e w7 ⟨⟨p', c', he, hop⟩, k7⟩ => ⟨_, _, _, _, _, _, _, _, _, _, he, .of_k0 k7, fun n7 W8 hW8 => ?_⟩⟩
      have k8 : K0 w7 W8 := hW8.kk rfl
      have k38 := ((k5.trans k6).trans k7).trans k8
      have ho8 := owns_kp ho3 k38 (fun _ _ h => h)
      have e1 : cs.length + 1 = (cs ++ [(⟨q.2.d, p', c'⟩ : DX)]).length := by simp
      have hop8 : MO W8 w1.heap.size ⟨q.2.d, p', c'⟩ := own_base (owns_kp hop k8 (fun _ _ h => h)) (by have := k2.size; have := k3.size; have := k5.size; have := k6.size; omega)
      have hb8 := hW8.cells 1 rfl
      refine ⟨w1.heap.size, cs.flatMap dfC, ho8, by omega, by omega, Nat.le_trans k2.size (Nat.le_trans k3.size k38.size), fun p9 c9 w9 ho9 hg9 _ => ⟨?_, ⟨cs ++ [⟨q.2.d, p', c'⟩], todo.eraseIdx j, p9, c9, by rw [← e1], ?_, ((List.eraseIdx_sublist _ _).trans hsub), by rw [← e1, helen]; omega, ?_, by rw [← e1, List.flatMap_append, List.flatMap_singleton]; exact ho9, fun x hx => ?_, ?_⟩, ?_⟩⟩
      · refine .of_kp (kp_grown hg9) (fun z hz => ?_)
        simp only [List.mem_cons, List.not_mem_nil, or_false] at hz
        intro e
        rw [hz] at e
        have h1 := own_lt ho3 e
        have h3 : w3.heap.size ≤ n4 := hW5.fresh 0 rfl rfl
        omega
      · refine (hR3.kp k38 (fun h => h) (fun h => h)).kp (kp_grown hg9) (fun e => ?_) (fun e => ?_)
        · have := own_ge ho8 e; have := own_lt ho8 e; omega
        · have := own_ge ho8 e; omega
      · refine List.Perm.trans ?_ hperm
        rw [List.map_append, List.append_assoc]
        refine List.Perm.append_left _ ?_
        rw [if_pos hd] at hpm
        exact hpm
      · rcases List.mem_append.1 hx with hx | hx
        · exact ((hMr x hx).k0 k38).grown ho8 (kp_grown hg9)
        · simp only [List.mem_cons, List.not_mem_nil, or_false] at hx
          subst hx
          exact hop8.grown ho8 (kp_grown hg9)
      · refine ((k2.trans k3).trans (k38.mono fun _ _ h => h.elim)).fresh (kp_grown hg9) (fun i hi e => ?_)
        have := own_ge ho8 e; omega
      · show leftN w9 r mb < leftN w2 r mb
        rw [hl2, hlam]
        have hR6 := (hR3.kp k38 (fun h => h) (fun h => h)).kp (kp_grown hg9) (fun e => by have := own_ge ho8 e; omega) (fun e => by have := own_ge ho8 e; omega)
        rw [hR6.left, hlam3]; omega
    · have k36 := k5.trans k6
      have hR5 := hR3.kp k36 (fun h => h) (fun h => h)
      refine ⟨⟨cs, todo.eraseIdx j, p0, c0, rfl, hR5, ((List.eraseIdx_sublist _ _).trans hsub), by rw [helen]; omega, ?_, owns_kp ho3 k36 (fun _ _ h => h), fun x hx => (hMr x hx).k0 k36, (k2.trans k3).trans (k36.mono fun _ _ h => h.elim)⟩, ?_⟩
      · refine List.Perm.trans ?_ hperm
        refine List.Perm.append_left _ ?_
        rw [if_neg (by rw [hd]; decide)] at hpm
        exact hpm
      · show leftN w6 r mb < leftN w2 r mb
        rw [hl2, hlam, hR5.left, hlam3]; omega

/-! ### Versions -/
theorem rversC_any (x : DX) (b1 : Nat) (s : ByteArray) (w : World) (hc : w.cell? ⟨b1, 0, none⟩ = some (.string s)) :
    Calls Tryz.prog 57 #[dfV x, .pointer (some ⟨b1, 0, none⟩)] w fun e w' => e = .returned (.bool (decide (x.d.g = s))) ∧ K0 w w' := by
  refine vc_rversC x.d.id x.d.au x.d.g x.d.v x.d.rm x.d.md x.p x.d.ms.length x.c x.d.tx b1 0 w _ (fun n1 => ⟨s, fun W hW => (hW.kk rfl : K0 w W).cell' hc (fun h => h), fun W hW => ⟨by rw [str_beq], hW.kk rfl⟩⟩)
theorem reverC_any (x : DX) (b1 b2 : Nat) (s : ByteArray) (a : Nat → Int) (w : World) (hc : w.cell? ⟨b1, 0, none⟩ = some (.string s)) (ha : AtL w b2 0 (arrI .u8 a 16 0)) (hR : RowA auC 16 w x.p x.d.ms) (ho : x.d.OK) (hb : BY a) (hl : x.d.ms.length ≤ 4611686018427387904) :
    Calls Tryz.prog 51 #[dfV x, .pointer (some ⟨b1, 0, none⟩), .pointer (some ⟨b2, 0, none⟩)] w fun e w' => e = .returned (.bool (decide (x.d.g = s) && decide (auI a ∈ x.d.ms.map auI))) ∧ K0 w w' := by
  refine vc_reverC x.d.id x.d.au x.d.g x.d.v x.d.rm x.d.md x.p x.d.ms.length x.c x.d.tx b1 0 b2 0 w _ (fun n1 => ⟨s, fun W hW => (hW.kk rfl : K0 w W).cell' hc (fun h => h), x.p, x.d.ms.length, x.c, gimp_intro fun _ W hW => cell_at (hW.cells 0 rfl) rfl, a, gimp_intro fun _ W hW => ha.k0 (hW.kk rfl), fun W hW => ?_⟩)
  have kW : K0 w W := hW.kk rfl
  rw [str_beq]
  refine bsp_intro (fun h => ?_) (fun h => ?_)
  · rw [h]
    exact ⟨(acont_any x.d.ms x.p x.c a W (hR.k0 kW) ho.ms hb hl).mono fun e w1 ⟨he, k1⟩ => ⟨_, he, .of_k0 k1, rfl, kW.trans k1⟩⟩
  · rw [h]
    exact ⟨.refl _ _, rfl, kW⟩
/-- The definitions of a group, in the order in which they prevail. -/
def VerL (l : List (List Int × DX)) (s : ByteArray) (cs : List DX) : Prop := (cs.map (·.d)).Perm (accL (fun x => decide (x.d.g = s)) l) ∧ cs.Pairwise (fun x y => ¬ cfD y x < 0)
theorem rvers_any {w : World} {b mb : Nat} {A : List Au} {l : List (List Int × DX)} (h : Reg w b mb A l) (hl : l.length ≤ 4096) (s : ByteArray) :
    Calls Tryz.prog 31 #[.pointer (some ⟨b, 0, none⟩), .string s] w fun e w' => (∃ (cs : List DX) (p : Option Addr) (c : Nat), e = .returned (.slice p cs.length c) ∧ w'.ownsRow w.heap.size 56 54 (.slice p cs.length c) cs.length (cs.flatMap dfC) ∧
      VerL l s cs ∧ ∀ x ∈ cs, MO w' w.heap.size x) ∧ K0 w w' := by
  refine vc_rvers b s w _ (fun n W hW => ?_)
  have kW : K0 w W := hW.kk rfl
  have hc := cell_at (o := 0) (v := .string s) (hW.cells 0 rfl) rfl
  refine ⟨(rpick_any (h.k0 kW) hl 57 #[] #[.pointer (some ⟨n, 0, none⟩)] (by kernel_rfl) (fun x => decide (x.d.g = s)) (fun q _ w1 k => rversC_any q.2 n s w1 (k.cell' hc (fun h => h)))).mono fun e w1 ⟨⟨cs, p, c, he, ho, hp, hs, hM⟩, k1⟩ => ⟨_, _, _, he, .of_k0 k1, ⟨cs, p, c, rfl, own_base ho kW.size, ⟨hp, hs⟩, fun x hx => own_base (hM x hx) kW.size⟩, kW.trans k1⟩⟩
theorem rever_any {w : World} {b mb : Nat} {A : List Au} {l : List (List Int × DX)} (h : Reg w b mb A l) (hl : l.length ≤ 4096) (s : ByteArray) (a : Nat → Int) (ha : BY a) :
    Calls Tryz.prog 20 #[.pointer (some ⟨b, 0, none⟩), .string s, .agg (arrI .u8 a 16 0).toArray] w fun e w' => e = .returned (.bool (l.any fun q => decide (q.2.d.g = s) && decide (auI a ∈ q.2.d.ms.map auI))) ∧ K0 w w' := by
  refine vc_rever b s a w _ (fun n n1 W hW => ?_)
  have kW : K0 w W := hW.kk rfl
  have hc := cell_at (o := 0) (v := .string s) (hW.cells 1 rfl) rfl
  have hat : AtL W n1 0 (arrI .u8 a 16 0) := AtL_block (hW.cells 0 rfl) rfl
  have hdis : l.Pairwise fun p q => p.1 ≠ q.1 := by
    have := h.map.dis
    unfold amap at this
    rw [List.pairwise_map] at this
    exact this
  refine ⟨(rpick_any (h.k0 kW) hl 51 #[] #[.pointer (some ⟨n, 0, none⟩), .pointer (some ⟨n1, 0, none⟩)] (by kernel_rfl) (fun x => decide (x.d.g = s) && decide (auI a ∈ x.d.ms.map auI)) (fun q hq w1 k => ?_)).mono fun e w1 ⟨⟨cs, p, c, he, ho, hp, hs, hM⟩, k1⟩ => ⟨_, _, _, he, .of_k0 k1, ?_, kW.trans k1⟩⟩
  · have hag : aget l q.1 = some q.2 := aget_at hdis hq
    have hz := dchk_sz (h.ok _ _ hag).1
    exact reverC_any q.2 n n1 s a w1 (k.cell' hc (fun h => h)) (hat.k0 k) ((h.str _ _ hag).1.k0 (kW.trans k)) (h.ok _ _ hag).2.2.2 ha (by omega)
  · have hlen := hp.length_eq
    rw [List.length_map] at hlen
    congr 2
    rw [hlen]
    unfold accL
    rw [List.length_map, Bool.eq_iff_iff, decide_eq_true_eq, List.any_eq_true]
    constructor
    · intro hpos
      have hpos : 0 < ((l.map (·.2)).filter fun x => decide (x.d.g = s) && decide (auI a ∈ x.d.ms.map auI)).length := by omega
      obtain ⟨x, hx⟩ := List.exists_mem_of_length_pos hpos
      rw [List.mem_filter] at hx
      obtain ⟨q, hq, e⟩ := List.mem_map.1 hx.1
      exact ⟨q, hq, by rw [e]; exact hx.2⟩
    · rintro ⟨q, hq, e⟩
      have : q.2 ∈ ((l.map (·.2)).filter fun x => decide (x.d.g = s) && decide (auI a ∈ x.d.ms.map auI)) := List.mem_filter.2 ⟨List.mem_map.2 ⟨q, hq, rfl⟩, e⟩
      have := List.length_pos_of_mem this
      omega
/-- What is in force. -/
def headC (cs : List DX) : Option DX := match cs with | x :: _ => if x.d.rm = true then none else some x | [] => none
theorem rcur_any {w : World} {b mb : Nat} {A : List Au} {l : List (List Int × DX)} (h : Reg w b mb A l) (hl : l.length ≤ 4096) (s : ByteArray) :
    Calls Tryz.prog 29 #[.pointer (some ⟨b, 0, none⟩), .string s] w fun e w' => (∃ cs : List DX, VerL l s cs ∧ (∀ x ∈ cs, MO w' w.heap.size x) ∧ e = .returned (.tuple #[dfV ((headC cs).getD dxz), .bool (headC cs).isSome])) ∧ K0 w w' := by
  refine vc_rcur b s w _ (fun n W hW => ?_)
  have kW : K0 w W := hW.kk rfl
  have gn : w.heap.size ≤ n := hW.fresh 0 rfl rfl
  have hnl := block_lt (hW.cells 0 rfl)
  simp only at hnl
  refine ⟨(rvers_any (h.k0 kW) hl s).mono fun e w1 ⟨⟨cs, p, c, he, ho, hV, hM⟩, k1⟩ => ⟨_, _, _, he, .of_k0 k1, ?_⟩⟩
  have k01 := kW.trans k1
  have hMw : ∀ x ∈ cs, MO w1 w.heap.size x := fun x hx => own_base (hM x hx) kW.size
  have hMn : ∀ (W2 : World), Kp (· = n) w1 W2 → ∀ x ∈ cs, MO W2 w.heap.size x := fun W2 hk x hx => own_base ((hM x hx).kp hk (fun k hk e => by have := own_ge (hM x hx) hk; omega)) kW.size
  have hKp : ∀ {T : List Blk} {W2 : World}, Loc w.heap.size T w1 W2 → (∀ x ∈ T, x.n = n) → Kp (· = n) w1 W2 := fun hL hT => hL.kp.mono fun k _ ⟨x, hx, _, e⟩ => by rw [← e]; exact hT x hx
  cases cs with
  | nil =>
    have e : (!((([] : List DX).length : Int) == 0)) = false := rfl
    rw [e]
    refine nn_off fun b1 o1 => ⟨gimp_intro fun h => (by cases h), false, gimp_intro fun h => (by cases h), bsp_intro (fun _ => fun W2 hW2 => ⟨⟨[], hV, (fun x hx => by cases hx), rfl⟩, hW2.k0 k01⟩) (fun h => by cases h)⟩
  | cons x r =>
    have hrow : RowA dfC 54 w1 p (x :: r) := RowA.own ho dfC_length (by decide)
    obtain ⟨y, b1, o1, hy, hp, hat⟩ := hrow.get (k := 0) (by simp)
    cases hy
    rw [Nat.zero_mul, Nat.add_zero] at hat
    have e : ((((x :: r).length : Nat) : Int) == 0) = false := by
      rw [List.length_cons, beq_eq_false_iff_ne]; omega
    rw [e]
    have hlt : (0 : Int) < (((x :: r).length : Nat) : Int) := by rw [List.length_cons]; omega
    refine nn_is hp ⟨gimp_intro fun _ => ⟨Int.le_refl _, hlt⟩, x.d.rm, gimp_intro fun _ => hat.cell (j := 50) rfl, bsp_intro (fun hb => fun W2 hW2 => ?_) (fun hb => nn_is hp ⟨⟨Int.le_refl _, hlt⟩, x.d.id, x.d.au, x.d.g, x.d.v, x.d.rm, x.d.md, x.p, x.d.ms.length, x.c, x.d.tx, hat, fun W2 hW2 => ?_⟩)⟩
    · have hb : x.d.rm = true := by simpa using hb
      have hh : headC (x :: r) = none := if_pos hb
      exact ⟨⟨x :: r, hV, hMn W2 (hKp hW2 (fun y hy => by simp only [List.mem_cons, List.not_mem_nil, or_false] at hy; rw [hy])), by rw [hh]; rfl⟩, hW2.k0 k01⟩
    · have hb : ¬ x.d.rm = true := by simpa using hb
      have hh : headC (x :: r) = some x := if_neg hb
      exact ⟨⟨x :: r, hV, hMn W2 (hKp hW2 (fun y hy => by simp only [List.mem_cons, List.not_mem_nil, or_false] at hy; rw [hy])), by rw [hh]; rfl⟩, hW2.k0 k01⟩
theorem rmod_any {w : World} {b mb : Nat} {A : List Au} {l : List (List Int × DX)} (h : Reg w b mb A l) (hl : l.length ≤ 4096) (s : ByteArray) :
    Calls Tryz.prog 32 #[.pointer (some ⟨b, 0, none⟩), .string s] w fun e w' => (∃ cs : List DX, VerL l s cs ∧ e = .returned (.bool ((headC cs).isSome && ((headC cs).getD dxz).d.md))) ∧ K0 w w' := by
  refine vc_rmod b s w _ ⟨(rcur_any h hl s).mono fun e w1 ⟨⟨cs, hV, hM, he⟩, k1⟩ => ⟨_, _, _, _, _, _, _, _, _, _, _, he, .of_k0 k1, fun n1 => ⟨_, gimp_intro fun _ W hW => cell_at (hW.cells 0 rfl) rfl, fun W hW => ⟨⟨cs, hV, rfl⟩, k1.trans (hW.kk rfl)⟩⟩⟩⟩

end Go.Proofs.YtkkfnlehlkiejaaGreatDoor

/- Chapter 21: the contract of New. Lists of at most 2^30 bytes; the library's variable MaxLen holds a number. -/
namespace Go.Proofs.YtkkfnlehlkiejaaGreatDoor
open Go.RowKit Go.Maps

theorem atC_one (x : Au) : ∀ u ∈ atC x, u.oneCell' = true := fun u hu => by
  unfold atC at hu
  rcases List.mem_append.1 hu with h | h
  · simp at h; subst h; rfl
  · exact arr_one x.au 16 u h
theorem auclone_any (l : List Au) (p : Option Addr) (c : Nat) (w : World) (hR : RowA atC 17 w p l) (hl : l.length ≤ 1000000) :
    Calls Tryz.prog 44 #[.slice p l.length c] w fun e w' => (∃ (p' : Option Addr) (c' : Nat), e = .returned (.slice p' l.length c') ∧ w'.ownsRow w.heap.size 94 17 (.slice p' l.length c') l.length (l.flatMap atC)) ∧ K0 w w' := by
  refine vc_auclone p l.length c w _ (bsp_intro (fun h => ?_) (fun h => fun n1 W hW => ?_))
  · obtain rfl : p = none := by simpa using h
    have := rowA_none hR
    subst this
    exact ⟨⟨none, 0, rfl, World.ownsRow_nil _ _ _ _⟩, .refl _ _⟩
  have kW : K0 w W := hW.kk rfl
  have g1 : w.heap.size ≤ n1 := hW.fresh 0 rfl rfl
  have h0 := hW.cells 0 rfl
  refine ⟨w.heap.size, [], l.flatMap atC, own_none g1 h0, by rw [len_flat atC 17 l (fun y _ => atC_length y)], src_rowA (hR.k0 kW) atC_length atC_one (by decide), by omega, by omega, kW.size, fun p' c' w' ho hg _ => ?_⟩
  rw [Nat.zero_add] at ho
  rw [Nat.zero_add]
  refine ⟨⟨(kp_grown hg).size, fun _ hx => by cases hx⟩, ⟨p', c', rfl, by simpa using ho⟩, kW.fresh (kp_grown hg) (fun j hj e => by simp only [Value.ownBlock, Option.some.injEq] at e; omega)⟩
theorem newE_step {l : List Au} {k : Nat} {x : Au} (hx : l[k]? = some x) : newE (l.drop k) k = match listR x.pt with
    | .inl _ => newE (l.drop (k + 1)) (k + 1)
    | .inr (_, e) => (k, e) := by
  have hlt := (List.getElem?_eq_some_iff.1 hx).1
  have e : l.drop k = x :: l.drop (k + 1) := by
    rw [List.drop_eq_getElem_cons hlt]
    rw [List.getElem?_eq_getElem hlt] at hx
    cases hx; rfl
  rw [e]; rfl
def ptrV (b : Nat) : Value := .pointer (some ⟨b, 0, none⟩)
set_option maxHeartbeats 2000000 in
theorem rnew_any (l : List Au) (p : Option Addr) (c : Nat) (w : World) (hR : RowA atC 17 w p l) (hb : ∀ x ∈ l, BY x.au) (hsz : ∀ x ∈ l, x.pt.size ≤ 1073741824) (hG : GW w) :
    Calls Tryz.prog 13 #[.slice p l.length c] w fun e w' => ((64 < l.length ∧ e = .returned (.tuple #[.pointer none, .int .i64 64, .int .i64 9])) ∨
      (l.length ≤ 64 ∧ (newE l 0).2 ≠ 0 ∧ e = .returned (.tuple #[.pointer none, .int .i64 ((newE l 0).1 : Nat), .int .i64 (newE l 0).2])) ∨
      (l.length ≤ 64 ∧ (newE l 0) = (0, 0) ∧ ∃ b mb : Nat, e = .returned (.tuple #[.pointer (some ⟨b, 0, none⟩), .int .i64 0, .int .i64 0]) ∧ Reg w' b mb l [] ∧ w.heap.size ≤ b ∧ w.heap.size ≤ mb)) ∧ K0 w w' := by
  refine vc_rnew p l.length c w _ (bsp_intro (fun h => ?_) (fun h => ?_))
  · exact ⟨.inl ⟨by simp at h; omega, rfl⟩, .refl _ _⟩
  have h64 : l.length ≤ 64 := by simp at h; omega
  refine ⟨(auclone_any l p c w hR (by omega)).mono fun e w1 ⟨⟨cp, cc, he, hoc⟩, k1⟩ => ⟨_, _, _, he, .of_k0 k1, fun n2 w2 hn2 => ⟨.of_k0 (hn2.kp _), fun n3 W hW => ?_⟩⟩⟩
  have k2 : K0 w1 w2 := hn2.kp _
  have g2 : w1.heap.size ≤ n2 := hn2.ge
  have hm2 : MapB Tryz.prog 52 byA w2 n2 ([] : List (List Int × Value)) := hn2.map
  have kW : K0 w2 W := hW.kk rfl
  have b3 := hW.cells 0 rfl
  have g3 : w2.heap.size ≤ n3 := hW.fresh 0 rfl rfl
  have l3 := block_lt b3
  simp only at l3
  have hn2l := hm2.lt
  have k0W := (k1.trans k2).trans kW
  have hocW := owns_kp hoc (k2.trans kW) (fun _ _ h => h)
  have hcl : ∀ g, (Value.slice cp l.length cc).ownBlock = some g → g < n3 := fun g e => by have := own_lt hoc e; omega
  refine ⟨fun vs w' => ∃ (k : Nat) (lp : Option Addr) (lc : Nat) (bs : List Nat), vs = [.int .i64 (k : Int)] ∧ k ≤ l.length ∧ newE (l.drop k) k = newE l 0 ∧ bs.length = k ∧
      w'.heap[n3]? = some (.cells #[.slice cp l.length cc, .slice lp k lc, .map (some n2)] 99 (0, 0)) ∧ w'.ownsRow W.heap.size 74 1 (.slice lp k lc) k (bs.map ptrV) ∧
      (∀ (j lb : Nat) (x : Au), bs[j]? = some lb → l[j]? = some x → ∃ es, listR x.pt = .inl es ∧ ListR (fun _ => True) w' lb x.pt es) ∧ Kp (fun j => j = n3 ∨ W.heap.size ≤ j) W w',
    fun vs _ => (match vs with | .int _ x :: _ => l.length - x.toNat | _ => 0), ⟨0, none, 0, [], rfl, by omega, rfl, rfl, b3, World.ownsRow_nil _ _ _ _, (fun j lb x h => by cases h), .refl _ _⟩, ?_⟩
  rintro x w3 ⟨k, lp, lc, bs, hv, hk, hE, hbl, hb3, hol, hL, k3⟩
  simp only [List.cons.injEq, Value.int.injEq, true_and, and_true] at hv
  subst hv
  have k03 : K0 w w3 := k0W.fresh k3 (fun j hj e => by rcases e with e | e <;> (have := k0W.size; have := k1.size; omega))
  refine bsp_intro (fun hlt => ?_) (fun hge => ?_)
  · have hlt : k < l.length := by simp at hlt; omega
    obtain ⟨x, b1, o1, hx, hp, hat⟩ := (hR.k0 k03).get hlt
    have hxm := List.mem_of_getElem? hx
    rw [newE_step hx] at hE
    rw [Int.toNat_natCast]
    refine nn_is hp ⟨⟨by omega, by omega⟩, x.pt, x.au, hat, fun n4 W4 hW4 => ?_⟩
    have k4 : K0 w3 W4 := hW4.kk rfl
    have b4 := hW4.cells 0 rfl
    have g4 : w3.heap.size ≤ n4 := hW4.fresh 0 rfl rfl
    have l4 := block_lt b4
    simp only at l4
    refine ⟨(parseList_any x.pt W4 (hsz x hxm) (hG.kp (k03.trans k4) (fun h => h))).mono fun e w5 ⟨k5, hQ⟩ => ?_⟩
    have k45 := k4.trans k5
    cases hl : listR x.pt with
    | inr oe =>
      obtain ⟨oo, ee⟩ := oe
      rw [hl] at hQ hE
      have hne := listR_err hl
      have hE : (k, ee) = newE l 0 := hE
      refine ⟨_, _, _, hQ, .of_k0 k5, bsp_intro (fun _ => ⟨.inr (.inl ⟨h64, by rw [← hE]; exact hne, by rw [← hE]⟩), k03.trans k45⟩) (fun h => absurd h (by simpa using hne))⟩
    | inl es =>
      rw [hl] at hQ hE
      obtain ⟨lb, he, hLb⟩ := hQ
      have hE : newE (l.drop (k + 1)) (k + 1) = newE l 0 := hE
      refine ⟨_, _, _, he, .of_k0 k5, bsp_intro (fun h => by cases h) (fun _ => ⟨lp, k, lc, cell_at (k45.blk hb3 (fun h => h)) rfl, fun n6 W6 hW6 => ?_⟩)⟩
      have k6 : K0 w5 W6 := hW6.kk rfl
      have k36 := k45.trans k6
      have ho6 := owns_kp hol k36 (fun _ _ h => h)
      have hb6 := k36.blk hb3 (fun h => h)
      have b6 := hW6.cells 1 rfl
      have hlb6 : ListR (fun _ => True) W6 lb x.pt es := hLb.all.kp k6 (fun _ _ _ h => h)
      refine ⟨W.heap.size, bs.map ptrV, ho6, by omega, by omega, Nat.le_trans k3.size k36.size, fun lp' lc' w7 ho7 hg7 _ => ?_⟩
      have kg := kp_grown hg7
      have hb7 := kg.blk hb6 (fun e => by have := own_ge ho6 e; omega)
      refine ⟨.of_kp kg (fun z hz e => ?_), cell_wr hb7 (by show 0 + 1 < 3; omega), fun w8 p8 => ?_⟩
      · simp only [List.mem_cons, List.not_mem_nil, or_false] at hz
        rw [hz] at e
        have := own_lt hol e
        omega
      have hb8 : w8.heap[n3]? = some (.cells #[.slice cp l.length cc, .slice lp' (k + 1) lc', .map (some n2)] 99 (0, 0)) := by rw [p8.block hb7]; rfl
      have k68 : Kp (fun j => (Value.slice lp k lc).ownBlock = some j ∨ j = n3) W6 w8 := (kg.mono fun _ _ h => .inl h).trans (p8.kp.mono fun _ _ h => .inr h)
      have hTy : ∀ j c t f, ((Value.slice lp k lc).ownBlock = some j ∨ j = n3) → W6.heap[j]? = some (.cells c t f) → t ≠ 116 ∧ t ≠ 120 ∧ t ≠ 149 ∧ t ≠ 167 := fun j c t f hj hh => by
        rcases hj with hj | rfl
        · obtain ⟨cc, hcc⟩ := own_type ho6 hj
          rw [hcc] at hh
          simp only [Option.some.injEq, Obj.cells.injEq] at hh
          rw [← hh.2.1]; decide
        · rw [hb6] at hh
          simp only [Option.some.injEq, Obj.cells.injEq] at hh
          rw [← hh.2.1]; decide
      have eb : (bs ++ [lb]).length = k + 1 := by simp [hbl]
      have k38 : Kp (fun j => j = n3 ∨ W.heap.size ≤ j) W w8 := by
        refine (k3.trans (k36.mono fun _ _ h => h.elim)).trans (k68.mono fun j hj e => ?_)
        rcases e with e | e
        · exact .inr (own_ge hol e)
        · exact .inl e
      refine ⟨.of_kp p8.kp (fun z hz e => ?_), ⟨k + 1, lp', lc', bs ++ [lb], by rw [inc64 (by omega)], hlt, hE, eb, hb8, ?_, fun j lb' y hj hy => ?_, k38⟩, by rw [inc64 (by omega)]; simp only [Int.toNat_natCast]; omega⟩
      · simp only [List.mem_cons, List.not_mem_nil, or_false] at hz
        rw [hz] at e
        have e : n4 = n3 := e
        have := k3.size
        omega
      · rw [List.map_append]
        exact owns_kp ho7 p8.kp (fun j hj e => by have := own_ge ho7 hj; have e : j = n3 := e; omega)
      · rcases Nat.lt_or_ge j bs.length with hjl | hjl
        · rw [List.getElem?_append_left hjl] at hj
          obtain ⟨es', h1, h2⟩ := hL j lb' y hj hy
          exact ⟨es', h1, (h2.kp k36 (fun _ _ _ h => h)).kpT k68 hTy⟩
        · rw [List.getElem?_append_right hjl] at hj
          have hjk : j = k := by
            rcases Nat.lt_or_ge (j - bs.length) 1 with h | h
            · omega
            · rw [List.getElem?_eq_none (by simpa using h)] at hj; cases hj
          subst hjk
          rw [hx] at hy
          cases hy
          rw [show j - bs.length = 0 by omega] at hj
          simp only [List.getElem?_cons_zero, Option.some.injEq] at hj
          subst hj
          exact ⟨es, hl, hlb6.kpT k68 hTy⟩
  · have hk2 : k = l.length := by simp at hge; omega
    subst hk2
    rw [List.drop_length] at hE
    have hE : (0, 0) = newE l 0 := hE
    have hoc3 := owns_kp hocW k3 (fun j hj e => by have := hcl j hj; rcases e with e | e <;> omega)
    have hm3 : MapB Tryz.prog 52 byA w3 n2 (amap dfV []) := (hm2.kp kW (fun h => h)).kp k3 (fun e => by have := kW.size; rcases e with e | e <;> omega)
    refine ⟨.inr (.inr ⟨h64, hE.symm, n3, n2, rfl, ⟨⟨cp, cc, lp, lc, hb3, RowA.own hoc3 atC_length (by decide), fun k x hx => ?_⟩, hm3, (fun a x hx => by cases hx), (fun a x hx => by cases hx), hb⟩, by have := k1.size; have := k2.size; omega, by have := k1.size; omega⟩), k03⟩
    have hkl := (List.getElem?_eq_some_iff.1 hx).1
    obtain ⟨lb, hlb⟩ : ∃ lb, bs[k]? = some lb := ⟨_, List.getElem?_eq_getElem (by omega)⟩
    obtain ⟨es, h1, h2⟩ := hL k lb x hlb hx
    obtain ⟨g, hp, hc⟩ := own_cellL hol (i := k) (v := ptrV lb) (by rw [List.getElem?_map, hlb]; rfl)
    exact ⟨g, 0, lb, es, hp, by rw [Nat.zero_add]; exact hc, h1, h2⟩

end Go.Proofs.YtkkfnlehlkiejaaGreatDoor

/- The formulas of functions by the symbolic evaluator, and that each gives the call's contract. Written by a program (gen.py). No condition. -/
namespace Go.Proofs.YtkkfnlehlkiejaaGreatDoor
set_option maxRecDepth 100000
set_option linter.unusedVariables false

def VC_lto (id : Nat → Int) (au : Nat → Int) (g : ByteArray) (v : Int) (rm : Bool) (md : Bool) (p : Option Addr) (n : Nat) (c : Nat) (t : ByteArray) (w : World) (R : Ending → World → Prop) : Prop :=
 ∀ (n_1 n_2 : Nat) (W : World),
 Loc w.heap.size
 [Blk.mk n_2 56
 [Value.int IntKind.u8 0, Value.int IntKind.u8 0, Value.int IntKind.u8 0, Value.int IntKind.u8 0,
 Value.int IntKind.u8 0, Value.int IntKind.u8 0, Value.int IntKind.u8 0, Value.int IntKind.u8 0,
 Value.int IntKind.u8 0, Value.int IntKind.u8 0, Value.int IntKind.u8 0, Value.int IntKind.u8 0,
 Value.int IntKind.u8 0, Value.int IntKind.u8 0, Value.int IntKind.u8 0, Value.int IntKind.u8 0,
 Value.int IntKind.u8 0, Value.int IntKind.u8 0, Value.int IntKind.u8 0, Value.int IntKind.u8 0,
 Value.int IntKind.u8 0, Value.int IntKind.u8 0, Value.int IntKind.u8 0, Value.int IntKind.u8 0,
 Value.int IntKind.u8 0, Value.int IntKind.u8 0, Value.int IntKind.u8 0, Value.int IntKind.u8 0,
 Value.int IntKind.u8 0, Value.int IntKind.u8 0, Value.int IntKind.u8 0, Value.int IntKind.u8 0,
 Value.int IntKind.u8 0, Value.int IntKind.u8 0, Value.int IntKind.u8 0, Value.int IntKind.u8 0,
 Value.int IntKind.u8 0, Value.int IntKind.u8 0, Value.int IntKind.u8 0, Value.int IntKind.u8 0,
 Value.int IntKind.u8 0, Value.int IntKind.u8 0, Value.int IntKind.u8 0, Value.int IntKind.u8 0,
 Value.int IntKind.u8 0, Value.int IntKind.u8 0, Value.int IntKind.u8 0, Value.int IntKind.u8 0,
 Value.string (ByteArray.mk #[]), Value.int IntKind.i64 0, Value.bool false, Value.bool false,
 Value.slice none 0 0, Value.string (ByteArray.mk #[])]
 2,
 Blk.mk n_1 50
 (arrI IntKind.u8 id 32 0 ++ (arrI IntKind.u8 au 16 0 ++ [Value.string g,
 Value.int IntKind.i64 v, Value.bool rm, Value.bool md, Value.slice p n c, Value.string t]))
 2]
 w W →
 ∃ (S : World → Prop),
 S W ∧
 ∃ (f : Nat → Int),
 (∀ (w' : World),
 S w' →
 AtL w' n_1 0
 (arrI IntKind.u8 f 32 0)) ∧
 ∃ (f_1 : Nat → Int),
 (∀ (w' : World),
 S w' →
 AtL w' n_1 (0 + 32)
 (arrI IntKind.u8 f_1 16 0)) ∧
 ∃ (x : ByteArray),
 (∀ (w' : World), S w' → w'.cell? (Addr.mk n_1 (0 + 48) none) = some (Value.string x)) ∧
 ∃ (x_1 : ByteArray),
 (∀ (w' : World), S w' → w'.cell? (Addr.mk n_1 (0 + 48) none) = some (Value.string x_1)) ∧
 ((0 ≤ if 100 < (↑x_1.size : Int) then 100 else (↑x_1.size : Int)) ∧
 (if 100 < (↑x_1.size : Int) then 100 else (↑x_1.size : Int)) ≤ (↑x.size : Int)) ∧
 ∃ (x_2 : Int),
 (∀ (w' : World), S w' → w'.cell? (Addr.mk n_1 (0 + 49) none) = some (Value.int IntKind.i64 x_2)) ∧
 ∃ (x_3 : Bool),
 (∀ (w' : World), S w' → w'.cell? (Addr.mk n_1 (0 + 50) none) = some (Value.bool x_3)) ∧
 ∃ (x_4 : Bool),
 (∀ (w' : World), S w' → w'.cell? (Addr.mk n_1 (0 + 51) none) = some (Value.bool x_4)) ∧
 ∃ (x_5 : ByteArray),
 (∀ (w' : World), S w' → w'.cell? (Addr.mk n_1 (0 + 53) none) = some (Value.string x_5)) ∧
 ∃ (x_6 : ByteArray),
 (∀ (w' : World), S w' → w'.cell? (Addr.mk n_1 (0 + 53) none) = some (Value.string x_6)) ∧
 ((0 ≤ if 220 < (↑x_6.size : Int) then 220 else (↑x_6.size : Int)) ∧
 (if 220 < (↑x_6.size : Int) then 220 else (↑x_6.size : Int)) ≤ (↑x_5.size : Int)) ∧
 ∀ (n_3 : Nat) (w1 : World),
 NewB W
 (Obj.cells
 #[Value.int IntKind.u8 0, Value.int IntKind.u8 0, Value.int IntKind.u8 0,
 Value.int IntKind.u8 0, Value.int IntKind.u8 0, Value.int IntKind.u8 0,
 Value.int IntKind.u8 0, Value.int IntKind.u8 0, Value.int IntKind.u8 0,
 Value.int IntKind.u8 0, Value.int IntKind.u8 0, Value.int IntKind.u8 0,
 Value.int IntKind.u8 0, Value.int IntKind.u8 0, Value.int IntKind.u8 0,
 Value.int IntKind.u8 0, Value.int IntKind.u8 0, Value.int IntKind.u8 0,
 Value.int IntKind.u8 0, Value.int IntKind.u8 0, Value.int IntKind.u8 0,
 Value.int IntKind.u8 0, Value.int IntKind.u8 0, Value.int IntKind.u8 0,
 Value.int IntKind.u8 0, Value.int IntKind.u8 0, Value.int IntKind.u8 0,
 Value.int IntKind.u8 0, Value.int IntKind.u8 0, Value.int IntKind.u8 0,
 Value.int IntKind.u8 0, Value.int IntKind.u8 0, Value.int IntKind.u8 0,
 Value.int IntKind.u8 0, Value.int IntKind.u8 0, Value.int IntKind.u8 0,
 Value.int IntKind.u8 0, Value.int IntKind.u8 0, Value.int IntKind.u8 0,
 Value.int IntKind.u8 0, Value.int IntKind.u8 0, Value.int IntKind.u8 0,
 Value.int IntKind.u8 0, Value.int IntKind.u8 0, Value.int IntKind.u8 0,
 Value.int IntKind.u8 0, Value.int IntKind.u8 0, Value.int IntKind.u8 0,
 Value.string (ByteArray.mk #[]), Value.int IntKind.i64 0, Value.bool false,
 Value.bool false, Value.slice none 0 0, Value.string (ByteArray.mk #[])]
 56)
 n_3 w1 →
 S w1 ∧
 WrL w1 n_3 0 54 ∧
 ∀ (w1_1 : World),
 PutB w1 n_3 0
 (arrI IntKind.u8 f 32 0 ++ (arrI IntKind.u8 f_1 16 0 ++ [Value.string
 (x.extract 0 (if 100 < (↑x_1.size : Int) then 100 else (↑x_1.size : Int)).toNat),
 Value.int IntKind.i64 x_2, Value.bool x_3, Value.bool x_4, Value.slice none 0 0,
 Value.string
 (x_5.extract 0 (if 220 < (↑x_6.size : Int) then 220 else (↑x_6.size : Int)).toNat)]))
 w1_1 →
 KeptL [n_2, n_1] W w1_1 ∧
 ∃ (I : List Value → World → Prop),
 ∃ (m : List Value → World → Nat),
 I [Value.int IntKind.i64 0] w1_1 ∧
 ∀ (x : Int) (w' : World),
 I [Value.int IntKind.i64 x] w' →
 Loc w.heap.size
 [Blk.mk n_2 56
 [Value.int IntKind.u8 0, Value.int IntKind.u8 0, Value.int IntKind.u8 0,
 Value.int IntKind.u8 0, Value.int IntKind.u8 0, Value.int IntKind.u8 0,
 Value.int IntKind.u8 0, Value.int IntKind.u8 0, Value.int IntKind.u8 0,
 Value.int IntKind.u8 0, Value.int IntKind.u8 0, Value.int IntKind.u8 0,
 Value.int IntKind.u8 0, Value.int IntKind.u8 0, Value.int IntKind.u8 0,
 Value.int IntKind.u8 0, Value.int IntKind.u8 0, Value.int IntKind.u8 0,
 Value.int IntKind.u8 0, Value.int IntKind.u8 0, Value.int IntKind.u8 0,
 Value.int IntKind.u8 0, Value.int IntKind.u8 0, Value.int IntKind.u8 0,
 Value.int IntKind.u8 0, Value.int IntKind.u8 0, Value.int IntKind.u8 0,
 Value.int IntKind.u8 0, Value.int IntKind.u8 0, Value.int IntKind.u8 0,
 Value.int IntKind.u8 0, Value.int IntKind.u8 0, Value.int IntKind.u8 0,
 Value.int IntKind.u8 0, Value.int IntKind.u8 0, Value.int IntKind.u8 0,
 Value.int IntKind.u8 0, Value.int IntKind.u8 0, Value.int IntKind.u8 0,
 Value.int IntKind.u8 0, Value.int IntKind.u8 0, Value.int IntKind.u8 0,
 Value.int IntKind.u8 0, Value.int IntKind.u8 0, Value.int IntKind.u8 0,
 Value.int IntKind.u8 0, Value.int IntKind.u8 0, Value.int IntKind.u8 0,
 Value.string (ByteArray.mk #[]), Value.int IntKind.i64 0, Value.bool false,
 Value.bool false, Value.slice none 0 0, Value.string (ByteArray.mk #[])]
 0,
 Blk.mk n_1 50
 (arrI IntKind.u8 id 32 0 ++ (arrI IntKind.u8 au 16 0 ++ [Value.string g,
 Value.int IntKind.i64 v, Value.bool rm, Value.bool md, Value.slice p n c,
 Value.string t]))
 0]
 w' w' →
 bsp (decide (x < (↑n : Int)) && decide (x < 10))
 (∀ (W : World),
 Loc w.heap.size
 [Blk.mk n_2 56
 [Value.int IntKind.u8 0, Value.int IntKind.u8 0, Value.int IntKind.u8 0,
 Value.int IntKind.u8 0, Value.int IntKind.u8 0, Value.int IntKind.u8 0,
 Value.int IntKind.u8 0, Value.int IntKind.u8 0, Value.int IntKind.u8 0,
 Value.int IntKind.u8 0, Value.int IntKind.u8 0, Value.int IntKind.u8 0,
 Value.int IntKind.u8 0, Value.int IntKind.u8 0, Value.int IntKind.u8 0,
 Value.int IntKind.u8 0, Value.int IntKind.u8 0, Value.int IntKind.u8 0,
 Value.int IntKind.u8 0, Value.int IntKind.u8 0, Value.int IntKind.u8 0,
 Value.int IntKind.u8 0, Value.int IntKind.u8 0, Value.int IntKind.u8 0,
 Value.int IntKind.u8 0, Value.int IntKind.u8 0, Value.int IntKind.u8 0,
 Value.int IntKind.u8 0, Value.int IntKind.u8 0, Value.int IntKind.u8 0,
 Value.int IntKind.u8 0, Value.int IntKind.u8 0, Value.int IntKind.u8 0,
 Value.int IntKind.u8 0, Value.int IntKind.u8 0, Value.int IntKind.u8 0,
 Value.int IntKind.u8 0, Value.int IntKind.u8 0, Value.int IntKind.u8 0,
 Value.int IntKind.u8 0, Value.int IntKind.u8 0, Value.int IntKind.u8 0,
 Value.int IntKind.u8 0, Value.int IntKind.u8 0, Value.int IntKind.u8 0,
 Value.int IntKind.u8 0, Value.int IntKind.u8 0, Value.int IntKind.u8 0,
 Value.string (ByteArray.mk #[]), Value.int IntKind.i64 0, Value.bool false,
 Value.bool false, Value.slice none 0 0, Value.string (ByteArray.mk #[])]
 0,
 Blk.mk n_1 50
 (arrI IntKind.u8 id 32 0 ++ (arrI IntKind.u8 au 16 0 ++ [Value.string g,
 Value.int IntKind.i64 v, Value.bool rm, Value.bool md, Value.slice p n c,
 Value.string t]))
 0]
 w' W →
 ∃ (S : World → Prop),
 S W ∧
 ∃ (p : Option Addr),
 ∃ (n : Nat),
 ∃ (c : Nat),
 (∀ (w' : World),
 S w' → w'.cell? (Addr.mk n_3 (0 + 52) none) = some (Value.slice p n c)) ∧
 ∃ (p_1 : Option Addr),
 ∃ (n_4 : Nat),
 ∃ (c_1 : Nat),
 (∀ (w' : World),
 S w' →
 w'.cell? (Addr.mk n_1 (0 + 52) none) =
 some (Value.slice p_1 n_4 c_1)) ∧
 nn true p_1 fun (b o : Nat) =>
 (0 ≤ x ∧ x < (↑n_4 : Int)) ∧
 ∃ (f : Nat → Int),
 (∀ (w' : World),
 S w' →
 AtL w' b (o + x.toNat * 16)
 (arrI IntKind.u8 f 16 0)) ∧
 ∀ (n_5 : Nat) (w1 : World),
 NewB W
 (Obj.cells
 (arrI IntKind.u8 f 16 0).toArray
 53)
 n_5 w1 →
 S w1 ∧
 ∃ (base : Nat),
 ∃ (xs : List Value),
 ∃ (news : List Value),
 w1.ownsRow base 53 16 (Value.slice p n c) n xs ∧
 news.length = 16 ∧
 SrcP w1 (some (Addr.mk n_5 0 none)) news ∧
 n + 1 ≤ 9223372036854775807 ∧
 (n + 1) * 16 ≤ 140737488355328 ∧
 base ≤ w1.heap.size ∧
 ∀ (p' : Option Addr) (c' : Nat) (w'_1 : World),
 w'_1.ownsRow base 53 16 (Value.slice p' (n + 1) c')
 (n + 1) (xs ++ news) →
 w1.grownBy w'_1 (Value.slice p n c).ownBlock →
 (n + 1 ≤ c → p' = p ∧ c' = c) →
 ((∃ (u : Value),
 w'_1.cell? (Addr.mk n_3 (0 + 52) none) =
 some u) ∧
 w'_1.frozen? (Addr.mk n_3 (0 + 52) none) =
 false) ∧
 ∀ (w1 : World),
 PutB w'_1 n_3 (0 + 52)
 [Value.slice p' (n + 1) c'] w1 →
 KeptL [n_2, n_1] W w1 ∧
 I
 [Value.int IntKind.i64
 (IntKind.i64.wrap (x + 1))]
 w1 ∧
 m
 [Value.int IntKind.i64
 (IntKind.i64.wrap (x + 1))]
 w1 <
 m [Value.int IntKind.i64 x] w')
 (∃ (f : Nat → Int),
 ∃ (f_2 : Nat → Int),
 ∃ (x : ByteArray),
 ∃ (x_7 : Int),
 ∃ (x_8 : Bool),
 ∃ (x_9 : Bool),
 ∃ (p_1 : Option Addr),
 ∃ (n_4 : Nat),
 ∃ (c_1 : Nat),
 ∃ (x_10 : ByteArray),
 AtL w' n_3 0
 (arrI IntKind.u8 f 32 0 ++ (arrI IntKind.u8 f_2 16 0 ++ [Value.string x, Value.int IntKind.i64 x_7, Value.bool x_8,
 Value.bool x_9, Value.slice p_1 n_4 c_1, Value.string x_10])) ∧
 ∀ (W : World),
 Loc w.heap.size
 [Blk.mk n_2 56
 (arrI IntKind.u8 f 32 0 ++ (arrI IntKind.u8 f_2 16 0 ++ [Value.string x, Value.int IntKind.i64 x_7, Value.bool x_8,
 Value.bool x_9, Value.slice p_1 n_4 c_1, Value.string x_10]))
 (wrM 0),
 Blk.mk n_1 50
 (arrI IntKind.u8 id 32 0 ++ (arrI IntKind.u8 au 16 0 ++ [Value.string g, Value.int IntKind.i64 v, Value.bool rm,
 Value.bool md, Value.slice p n c, Value.string t]))
 0]
 w' W →
 R
 (Ending.returned
 (Value.agg
 (arrI IntKind.u8 f 32 0 ++ (arrI IntKind.u8 f_2 16 0 ++ [Value.string x, Value.int IntKind.i64 x_7, Value.bool x_8,
 Value.bool x_9, Value.slice p_1 n_4 c_1, Value.string x_10])).toArray))
 W)
theorem vc_lto (id : Nat → Int) (au : Nat → Int) (g : ByteArray) (v : Int) (rm : Bool) (md : Bool) (p : Option Addr) (n : Nat) (c : Nat) (t : ByteArray) (w : World) (R : Ending → World → Prop) (h : VC_lto id au g v rm md p n c t w R) : Calls Tryz.prog 23 ([Value.agg
    (arrI IntKind.u8 id 32 0 ++
        (arrI IntKind.u8 au 16 0 ++
          [Value.string g, Value.int IntKind.i64 v, Value.bool rm, Value.bool md, Value.slice p n c,
            Value.string t])).toArray] : List Value).toArray w R := by
  have e : execR2 { P := Tryz.prog, loops := [(3, [(4, Ck.int IntKind.i64)])], pur := pur1, tails := [(1, 25), (5, 7)], joins := [], boxes := [] } Tryz.f23.results.toList R (Tryz.f23.body.getD .skip) (initF [Value.agg
    (arrI IntKind.u8 id 32 0 ++
        (arrI IntKind.u8 au 16 0 ++
          [Value.string g, Value.int IntKind.i64 v, Value.bool rm, Value.bool md, Value.slice p n c,
            Value.string
              t])).toArray] (Tryz.f23.ntmps - ([Value.agg
    (arrI IntKind.u8 id 32 0 ++
        (arrI IntKind.u8 au 16 0 ++
          [Value.string g, Value.int IntKind.i64 v, Value.bool rm, Value.bool md, Value.slice p n c,
            Value.string t])).toArray] : List Value).length)) w = VC_lto id au g v rm md p n c t w R := by kernel_rfl
  have hb : Tryz.f23.body = some (Tryz.f23.body.getD .skip) := by kernel_rfl
  exact calls_of_exec2' (P := Tryz.prog) (fn := Tryz.f23) (c := Tryz.f23.body.getD .skip) (args := [Value.agg
    (arrI IntKind.u8 id 32 0 ++
        (arrI IntKind.u8 au 16 0 ++
          [Value.string g, Value.int IntKind.i64 v, Value.bool rm, Value.bool md, Value.slice p n c,
            Value.string t])).toArray]) (w := w) (R := R) pur1_ok Tryz.func23 hb e h

def VC_lof (id : Nat → Int) (au : Nat → Int) (g : ByteArray) (v : Int) (rm : Bool) (md : Bool) (p : Option Addr) (n : Nat) (c : Nat) (t : ByteArray) (w : World) (R : Ending → World → Prop) : Prop :=
 ∀ (n_1 n_2 n_3 : Nat) (W : World),
 Loc w.heap.size
 [Blk.mk n_3 50
 (arrI IntKind.u8 id 32 0 ++ (arrI IntKind.u8 au 16 0 ++ [Value.string g,
 Value.int IntKind.i64 v, Value.bool rm, Value.bool md, Value.slice none 0 0, Value.string t]))
 (wrM 2),
 Blk.mk n_2 50
 [Value.int IntKind.u8 0, Value.int IntKind.u8 0, Value.int IntKind.u8 0, Value.int IntKind.u8 0,
 Value.int IntKind.u8 0, Value.int IntKind.u8 0, Value.int IntKind.u8 0, Value.int IntKind.u8 0,
 Value.int IntKind.u8 0, Value.int IntKind.u8 0, Value.int IntKind.u8 0, Value.int IntKind.u8 0,
 Value.int IntKind.u8 0, Value.int IntKind.u8 0, Value.int IntKind.u8 0, Value.int IntKind.u8 0,
 Value.int IntKind.u8 0, Value.int IntKind.u8 0, Value.int IntKind.u8 0, Value.int IntKind.u8 0,
 Value.int IntKind.u8 0, Value.int IntKind.u8 0, Value.int IntKind.u8 0, Value.int IntKind.u8 0,
 Value.int IntKind.u8 0, Value.int IntKind.u8 0, Value.int IntKind.u8 0, Value.int IntKind.u8 0,
 Value.int IntKind.u8 0, Value.int IntKind.u8 0, Value.int IntKind.u8 0, Value.int IntKind.u8 0,
 Value.int IntKind.u8 0, Value.int IntKind.u8 0, Value.int IntKind.u8 0, Value.int IntKind.u8 0,
 Value.int IntKind.u8 0, Value.int IntKind.u8 0, Value.int IntKind.u8 0, Value.int IntKind.u8 0,
 Value.int IntKind.u8 0, Value.int IntKind.u8 0, Value.int IntKind.u8 0, Value.int IntKind.u8 0,
 Value.int IntKind.u8 0, Value.int IntKind.u8 0, Value.int IntKind.u8 0, Value.int IntKind.u8 0,
 Value.string (ByteArray.mk #[]), Value.int IntKind.i64 0, Value.bool false, Value.bool false,
 Value.slice none 0 0, Value.string (ByteArray.mk #[])]
 2,
 Blk.mk n_1 56
 (arrI IntKind.u8 id 32 0 ++ (arrI IntKind.u8 au 16 0 ++ [Value.string g,
 Value.int IntKind.i64 v, Value.bool rm, Value.bool md, Value.slice p n c, Value.string t]))
 2]
 w W →
 ∃ (I : List Value → World → Prop),
 ∃ (m : List Value → World → Nat),
 I [Value.int IntKind.i64 0] W ∧
 ∀ (x : Int) (w' : World),
 I [Value.int IntKind.i64 x] w' →
 Loc w.heap.size
 [Blk.mk n_2 50
 [Value.int IntKind.u8 0, Value.int IntKind.u8 0, Value.int IntKind.u8 0, Value.int IntKind.u8 0,
 Value.int IntKind.u8 0, Value.int IntKind.u8 0, Value.int IntKind.u8 0, Value.int IntKind.u8 0,
 Value.int IntKind.u8 0, Value.int IntKind.u8 0, Value.int IntKind.u8 0, Value.int IntKind.u8 0,
 Value.int IntKind.u8 0, Value.int IntKind.u8 0, Value.int IntKind.u8 0, Value.int IntKind.u8 0,
 Value.int IntKind.u8 0, Value.int IntKind.u8 0, Value.int IntKind.u8 0, Value.int IntKind.u8 0,
 Value.int IntKind.u8 0, Value.int IntKind.u8 0, Value.int IntKind.u8 0, Value.int IntKind.u8 0,
 Value.int IntKind.u8 0, Value.int IntKind.u8 0, Value.int IntKind.u8 0, Value.int IntKind.u8 0,
 Value.int IntKind.u8 0, Value.int IntKind.u8 0, Value.int IntKind.u8 0, Value.int IntKind.u8 0,
 Value.int IntKind.u8 0, Value.int IntKind.u8 0, Value.int IntKind.u8 0, Value.int IntKind.u8 0,
 Value.int IntKind.u8 0, Value.int IntKind.u8 0, Value.int IntKind.u8 0, Value.int IntKind.u8 0,
 Value.int IntKind.u8 0, Value.int IntKind.u8 0, Value.int IntKind.u8 0, Value.int IntKind.u8 0,
 Value.int IntKind.u8 0, Value.int IntKind.u8 0, Value.int IntKind.u8 0, Value.int IntKind.u8 0,
 Value.string (ByteArray.mk #[]), Value.int IntKind.i64 0, Value.bool false, Value.bool false,
 Value.slice none 0 0, Value.string (ByteArray.mk #[])]
 0,
 Blk.mk n_1 56
 (arrI IntKind.u8 id 32 0 ++ (arrI IntKind.u8 au 16 0 ++ [Value.string g,
 Value.int IntKind.i64 v, Value.bool rm, Value.bool md, Value.slice p n c, Value.string t]))
 0]
 w' w' →
 bsp (decide (x < (↑n : Int)))
 (∀ (W : World),
 Loc w.heap.size
 [Blk.mk n_2 50
 [Value.int IntKind.u8 0, Value.int IntKind.u8 0, Value.int IntKind.u8 0, Value.int IntKind.u8 0,
 Value.int IntKind.u8 0, Value.int IntKind.u8 0, Value.int IntKind.u8 0, Value.int IntKind.u8 0,
 Value.int IntKind.u8 0, Value.int IntKind.u8 0, Value.int IntKind.u8 0, Value.int IntKind.u8 0,
 Value.int IntKind.u8 0, Value.int IntKind.u8 0, Value.int IntKind.u8 0, Value.int IntKind.u8 0,
 Value.int IntKind.u8 0, Value.int IntKind.u8 0, Value.int IntKind.u8 0, Value.int IntKind.u8 0,
 Value.int IntKind.u8 0, Value.int IntKind.u8 0, Value.int IntKind.u8 0, Value.int IntKind.u8 0,
 Value.int IntKind.u8 0, Value.int IntKind.u8 0, Value.int IntKind.u8 0, Value.int IntKind.u8 0,
 Value.int IntKind.u8 0, Value.int IntKind.u8 0, Value.int IntKind.u8 0, Value.int IntKind.u8 0,
 Value.int IntKind.u8 0, Value.int IntKind.u8 0, Value.int IntKind.u8 0, Value.int IntKind.u8 0,
 Value.int IntKind.u8 0, Value.int IntKind.u8 0, Value.int IntKind.u8 0, Value.int IntKind.u8 0,
 Value.int IntKind.u8 0, Value.int IntKind.u8 0, Value.int IntKind.u8 0, Value.int IntKind.u8 0,
 Value.int IntKind.u8 0, Value.int IntKind.u8 0, Value.int IntKind.u8 0, Value.int IntKind.u8 0,
 Value.string (ByteArray.mk #[]), Value.int IntKind.i64 0, Value.bool false, Value.bool false,
 Value.slice none 0 0, Value.string (ByteArray.mk #[])]
 0,
 Blk.mk n_1 56
 (arrI IntKind.u8 id 32 0 ++ (arrI IntKind.u8 au 16 0 ++ [Value.string g,
 Value.int IntKind.i64 v, Value.bool rm, Value.bool md, Value.slice p n c, Value.string t]))
 0]
 w' W →
 ∃ (S : World → Prop),
 S W ∧
 ∃ (p : Option Addr),
 ∃ (n : Nat),
 ∃ (c : Nat),
 (∀ (w' : World), S w' → w'.cell? (Addr.mk n_3 (0 + 52) none) = some (Value.slice p n c)) ∧
 ∃ (p_1 : Option Addr),
 ∃ (n_4 : Nat),
 ∃ (c_1 : Nat),
 (∀ (w' : World), S w' → w'.cell? (Addr.mk n_1 (0 + 52) none) = some (Value.slice p_1 n_4 c_1)) ∧
 nn true p_1 fun (b o : Nat) =>
 (0 ≤ x ∧ x < (↑n_4 : Int)) ∧
 ∃ (f : Nat → Int),
 (∀ (w' : World),
 S w' →
 AtL w' b (o + x.toNat * 16)
 (arrI IntKind.u8 f 16 0)) ∧
 ∀ (n_5 : Nat) (w1 : World),
 NewB W
 (Obj.cells
 (arrI IntKind.u8 f 16 0).toArray
 23)
 n_5 w1 →
 S w1 ∧
 ∃ (base : Nat),
 ∃ (xs : List Value),
 ∃ (news : List Value),
 w1.ownsRow base 23 16 (Value.slice p n c) n xs ∧
 news.length = 16 ∧
 SrcP w1 (some (Addr.mk n_5 0 none)) news ∧
 n + 1 ≤ 9223372036854775807 ∧
 (n + 1) * 16 ≤ 140737488355328 ∧
 base ≤ w1.heap.size ∧
 ∀ (p' : Option Addr) (c' : Nat) (w'_1 : World),
 w'_1.ownsRow base 23 16 (Value.slice p' (n + 1) c') (n + 1) (xs ++ news) →
 w1.grownBy w'_1 (Value.slice p n c).ownBlock →
 (n + 1 ≤ c → p' = p ∧ c' = c) →
 ((∃ (u : Value), w'_1.cell? (Addr.mk n_3 (0 + 52) none) = some u) ∧
 w'_1.frozen? (Addr.mk n_3 (0 + 52) none) = false) ∧
 ∀ (w1 : World),
 PutB w'_1 n_3 (0 + 52) [Value.slice p' (n + 1) c'] w1 →
 KeptL [n_2, n_1] W w1 ∧
 I [Value.int IntKind.i64 (IntKind.i64.wrap (x + 1))] w1 ∧
 m [Value.int IntKind.i64 (IntKind.i64.wrap (x + 1))] w1 <
 m [Value.int IntKind.i64 x] w')
 (∃ (f : Nat → Int),
 ∃ (f_1 : Nat → Int),
 ∃ (x : ByteArray),
 ∃ (x_1 : Int),
 ∃ (x_2 : Bool),
 ∃ (x_3 : Bool),
 ∃ (p_1 : Option Addr),
 ∃ (n_4 : Nat),
 ∃ (c_1 : Nat),
 ∃ (x_4 : ByteArray),
 AtL w' n_3 0
 (arrI IntKind.u8 f 32 0 ++ (arrI IntKind.u8 f_1 16 0 ++ [Value.string x, Value.int IntKind.i64 x_1, Value.bool x_2, Value.bool x_3,
 Value.slice p_1 n_4 c_1, Value.string x_4])) ∧
 ∀ (W : World),
 Loc w.heap.size
 [Blk.mk n_2 50
 (arrI IntKind.u8 f 32 0 ++ (arrI IntKind.u8 f_1 16 0 ++ [Value.string x, Value.int IntKind.i64 x_1, Value.bool x_2, Value.bool x_3,
 Value.slice p_1 n_4 c_1, Value.string x_4]))
 (wrM 0),
 Blk.mk n_1 56
 (arrI IntKind.u8 id 32 0 ++ (arrI IntKind.u8 au 16 0 ++ [Value.string g, Value.int IntKind.i64 v, Value.bool rm, Value.bool md, Value.slice p n c,
 Value.string t]))
 0]
 w' W →
 R
 (Ending.returned
 (Value.agg
 (arrI IntKind.u8 f 32 0 ++ (arrI IntKind.u8 f_1 16 0 ++ [Value.string x, Value.int IntKind.i64 x_1, Value.bool x_2, Value.bool x_3,
 Value.slice p_1 n_4 c_1, Value.string x_4])).toArray))
 W)
theorem vc_lof (id : Nat → Int) (au : Nat → Int) (g : ByteArray) (v : Int) (rm : Bool) (md : Bool) (p : Option Addr) (n : Nat) (c : Nat) (t : ByteArray) (w : World) (R : Ending → World → Prop) (h : VC_lof id au g v rm md p n c t w R) : Calls Tryz.prog 26 ([Value.agg
    (arrI IntKind.u8 id 32 0 ++
        (arrI IntKind.u8 au 16 0 ++
          [Value.string g, Value.int IntKind.i64 v, Value.bool rm, Value.bool md, Value.slice p n c,
            Value.string t])).toArray] : List Value).toArray w R := by
  have e : execR2 { P := Tryz.prog, loops := [(3, [(4, Ck.int IntKind.i64)])], pur := pur1, tails := [(5, 7)], joins := [], boxes := [] } Tryz.f26.results.toList R (Tryz.f26.body.getD .skip) (initF [Value.agg
    (arrI IntKind.u8 id 32 0 ++
        (arrI IntKind.u8 au 16 0 ++
          [Value.string g, Value.int IntKind.i64 v, Value.bool rm, Value.bool md, Value.slice p n c,
            Value.string
              t])).toArray] (Tryz.f26.ntmps - ([Value.agg
    (arrI IntKind.u8 id 32 0 ++
        (arrI IntKind.u8 au 16 0 ++
          [Value.string g, Value.int IntKind.i64 v, Value.bool rm, Value.bool md, Value.slice p n c,
            Value.string t])).toArray] : List Value).length)) w = VC_lof id au g v rm md p n c t w R := by kernel_rfl
  have hb : Tryz.f26.body = some (Tryz.f26.body.getD .skip) := by kernel_rfl
  exact calls_of_exec2' (P := Tryz.prog) (fn := Tryz.f26) (c := Tryz.f26.body.getD .skip) (args := [Value.agg
    (arrI IntKind.u8 id 32 0 ++
        (arrI IntKind.u8 au 16 0 ++
          [Value.string g, Value.int IntKind.i64 v, Value.bool rm, Value.bool md, Value.slice p n c,
            Value.string t])).toArray]) (w := w) (R := R) pur1_ok Tryz.func26 hb e h

def VC_lauths (p : Option Addr) (n : Nat) (c : Nat) (w : World) (R : Ending → World → Prop) : Prop :=
 ∃ (I : List Value → World → Prop),
 ∃ (m : List Value → World → Nat),
 I [Value.int IntKind.i64 0, Value.slice none 0 0, Value.slice none 0 0] w ∧
 ∀ (x : Int) (p_1 : Option Addr) (n_1 c : Nat) (p_2 : Option Addr) (n_2 c_1 : Nat) (w' : World),
 I [Value.int IntKind.i64 x, Value.slice p_1 n_1 c, Value.slice p_2 n_2 c_1] w' →
 bsp (decide (x < (↑n : Int)) && decide (x < 70))
 (∀ (W : World),
 Loc w.heap.size [] w' W →
 ∃ (S : World → Prop),
 S W ∧
 nn true p fun (b o : Nat) =>
 (0 ≤ x ∧ x < (↑n : Int)) ∧
 ∃ (x_1 : ByteArray),
 (∀ (w' : World), S w' → w'.cell? (Addr.mk b (o + x.toNat * 17) none) = some (Value.string x_1)) ∧
 nn true p fun (b o : Nat) =>
 (0 ≤ x ∧ x < (↑n : Int)) ∧
 ∃ (x_2 : ByteArray),
 (∀ (w' : World), S w' → w'.cell? (Addr.mk b (o + x.toNat * 17) none) = some (Value.string x_2)) ∧
 ((0 ≤ if 200 < (↑x_2.size : Int) then 200 else (↑x_2.size : Int)) ∧
 (if 200 < (↑x_2.size : Int) then 200 else (↑x_2.size : Int)) ≤ (↑x_1.size : Int)) ∧
 nn true p fun (b o : Nat) =>
 (0 ≤ x ∧ x < (↑n : Int)) ∧
 ∃ (f : Nat → Int),
 (∀ (w' : World),
 S w' →
 AtL w' b (o + x.toNat * 17 + 1)
 (arrI IntKind.u8 f 16 0)) ∧
 ∀ (n : Nat) (w1 : World),
 NewB W
 (Obj.cells
 #[Value.string (ByteArray.mk #[]), Value.int IntKind.u8 0, Value.int IntKind.u8 0,
 Value.int IntKind.u8 0, Value.int IntKind.u8 0, Value.int IntKind.u8 0,
 Value.int IntKind.u8 0, Value.int IntKind.u8 0, Value.int IntKind.u8 0,
 Value.int IntKind.u8 0, Value.int IntKind.u8 0, Value.int IntKind.u8 0,
 Value.int IntKind.u8 0, Value.int IntKind.u8 0, Value.int IntKind.u8 0,
 Value.int IntKind.u8 0, Value.int IntKind.u8 0]
 92)
 n w1 →
 S w1 ∧
 WrL w1 n 0 17 ∧
 ∀ (w1_1 : World),
 PutB w1 n 0
 ([Value.string
 (x_1.extract 0 (if 200 < (↑x_2.size : Int) then 200 else (↑x_2.size : Int)).toNat)] ++ arrI IntKind.u8 f 16 0)
 w1_1 →
 KeptL [] W w1_1 ∧
 ∃ (x_3 : ByteArray),
 w1_1.cell? (Addr.mk n 0 none) = some (Value.string x_3) ∧
 ∃ (f : Nat → Int),
 AtL w1_1 n (0 + 1)
 (arrI IntKind.u8 f 16 0) ∧
 ∀ (n_3 : Nat) (W : World),
 Loc w.heap.size
 [Blk.mk n_3 94
 ([Value.string x_3] ++ arrI IntKind.u8 f 16 0)
 2]
 w1_1 W →
 ∃ (base : Nat),
 ∃ (xs : List Value),
 W.ownsRow base 94 17 (Value.slice p_2 n_2 c_1) n_2 xs ∧
 n_2 + 1 ≤ 9223372036854775807 ∧
 (n_2 + 1) * 32 ≤ 140737488355328 ∧
 base ≤ W.heap.size ∧
 ∀ (p' : Option Addr) (c' : Nat) (w'_1 : World),
 w'_1.ownsRow base 94 17 (Value.slice p' (n_2 + 1) c') (n_2 + 1)
 (xs ++
 ([Value.string x_3] ++ arrI IntKind.u8 f 16 0)) →
 W.grownBy w'_1 (Value.slice p_2 n_2 c_1).ownBlock →
 (n_2 + 1 ≤ c_1 → p' = p_2 ∧ c' = c_1) →
 KeptL [] W w'_1 ∧
 ∃ (x_4 : ByteArray),
 ∃ (f : Nat → Int),
 AtL w'_1 n 0
 ([Value.string x_4] ++ arrI IntKind.u8 f 16 0) ∧
 ∀ (n : Nat) (W : World),
 Loc w.heap.size
 [Blk.mk n 92
 ([Value.string x_4] ++ arrI IntKind.u8 f 16 0)
 2]
 w'_1 W →
 ∃ (base : Nat),
 ∃ (xs : List Value),
 W.ownsRow base 92 17 (Value.slice p_1 n_1 c) n_1 xs ∧
 n_1 + 1 ≤ 9223372036854775807 ∧
 (n_1 + 1) * 32 ≤ 140737488355328 ∧
 base ≤ W.heap.size ∧
 ∀ (p'_1 : Option Addr) (c'_1 : Nat) (w'_2 : World),
 w'_2.ownsRow base 92 17 (Value.slice p'_1 (n_1 + 1) c'_1)
 (n_1 + 1)
 (xs ++
 ([Value.string x_4] ++ arrI IntKind.u8 f 16 0)) →
 W.grownBy w'_2 (Value.slice p_1 n_1 c).ownBlock →
 (n_1 + 1 ≤ c → p'_1 = p_1 ∧ c'_1 = c) →
 KeptL [] W w'_2 ∧
 I
 [Value.int IntKind.i64 (IntKind.i64.wrap (x + 1)),
 Value.slice p'_1 (n_1 + 1) c'_1,
 Value.slice p' (n_2 + 1) c']
 w'_2 ∧
 m
 [Value.int IntKind.i64 (IntKind.i64.wrap (x + 1)),
 Value.slice p'_1 (n_1 + 1) c'_1,
 Value.slice p' (n_2 + 1) c']
 w'_2 <
 m
 [Value.int IntKind.i64 x, Value.slice p_1 n_1 c,
 Value.slice p_2 n_2 c_1]
 w')
 (R (Ending.returned (Value.tuple #[Value.slice p_2 n_2 c_1, Value.slice p_1 n_1 c])) w')
theorem vc_lauths (p : Option Addr) (n : Nat) (c : Nat) (w : World) (R : Ending → World → Prop) (h : VC_lauths p n c w R) : Calls Tryz.prog 12 ([Value.slice
    p n c] : List Value).toArray w R := by
  have e : execR2 { P := Tryz.prog, loops := [(4, [(6, Ck.int IntKind.i64), (5, Ck.slice), (4, Ck.slice)])], pur := pur1, tails := [(6, 19)], joins := [], boxes := [] } Tryz.f12.results.toList R (Tryz.f12.body.getD .skip) (initF [Value.slice
    p n c] (Tryz.f12.ntmps - ([Value.slice p n c] : List Value).length)) w = VC_lauths p n c w R := by kernel_rfl
  have hb : Tryz.f12.body = some (Tryz.f12.body.getD .skip) := by kernel_rfl
  exact calls_of_exec2' (P := Tryz.prog) (fn := Tryz.f12) (c := Tryz.f12.body.getD .skip) (args := [Value.slice p n
    c]) (w := w) (R := R) pur1_ok Tryz.func12 hb e h

def VC_lknown (w : World) (R : Ending → World → Prop) : Prop :=
 ∀ (n n_1 n_2 : Nat) (W : World),
 Loc w.heap.size
 [Blk.mk n_2 94
 [Value.string (ByteArray.mk #[99, 111, 109, 112, 46, 42]), Value.int IntKind.u8 1, Value.int IntKind.u8 0,
 Value.int IntKind.u8 0, Value.int IntKind.u8 0, Value.int IntKind.u8 0, Value.int IntKind.u8 0,
 Value.int IntKind.u8 0, Value.int IntKind.u8 0, Value.int IntKind.u8 0, Value.int IntKind.u8 0,
 Value.int IntKind.u8 0, Value.int IntKind.u8 0, Value.int IntKind.u8 0, Value.int IntKind.u8 0,
 Value.int IntKind.u8 0, Value.int IntKind.u8 0]
 2,
 Blk.mk n_1 53
 [Value.int IntKind.u8 2, Value.int IntKind.u8 0, Value.int IntKind.u8 0, Value.int IntKind.u8 0,
 Value.int IntKind.u8 0, Value.int IntKind.u8 0, Value.int IntKind.u8 0, Value.int IntKind.u8 0,
 Value.int IntKind.u8 0, Value.int IntKind.u8 0, Value.int IntKind.u8 0, Value.int IntKind.u8 0,
 Value.int IntKind.u8 0, Value.int IntKind.u8 0, Value.int IntKind.u8 0, Value.int IntKind.u8 0]
 (wrM 2),
 Blk.mk n 53
 [Value.int IntKind.u8 1, Value.int IntKind.u8 0, Value.int IntKind.u8 0, Value.int IntKind.u8 0,
 Value.int IntKind.u8 0, Value.int IntKind.u8 0, Value.int IntKind.u8 0, Value.int IntKind.u8 0,
 Value.int IntKind.u8 0, Value.int IntKind.u8 0, Value.int IntKind.u8 0, Value.int IntKind.u8 0,
 Value.int IntKind.u8 0, Value.int IntKind.u8 0, Value.int IntKind.u8 0, Value.int IntKind.u8 0]
 (wrM 2)]
 w W →
 CallsS Tryz.prog 13 #[Value.slice (some (Addr.mk n_2 0 none)) 1 1] W fun (e : Ending) (w' : World) =>
 ∃ (x : Option Addr),
 ∃ (x_1 : Int),
 ∃ (x_2 : Int),
 e = Ending.returned (Value.tuple #[Value.pointer x, Value.int IntKind.i64 x_1, Value.int IntKind.i64 x_2]) ∧
 KeptL [n_1, n] W w' ∧
 ∀ (n_3 : Nat) (W : World),
 Loc w.heap.size
 [Blk.mk n_3 53
 [Value.int IntKind.u8 2, Value.int IntKind.u8 0, Value.int IntKind.u8 0, Value.int IntKind.u8 0,
 Value.int IntKind.u8 0, Value.int IntKind.u8 0, Value.int IntKind.u8 0, Value.int IntKind.u8 0,
 Value.int IntKind.u8 0, Value.int IntKind.u8 0, Value.int IntKind.u8 0, Value.int IntKind.u8 0,
 Value.int IntKind.u8 0, Value.int IntKind.u8 0, Value.int IntKind.u8 0, Value.int IntKind.u8 0]
 2,
 Blk.mk n_1 53
 [Value.int IntKind.u8 2, Value.int IntKind.u8 0, Value.int IntKind.u8 0, Value.int IntKind.u8 0,
 Value.int IntKind.u8 0, Value.int IntKind.u8 0, Value.int IntKind.u8 0, Value.int IntKind.u8 0,
 Value.int IntKind.u8 0, Value.int IntKind.u8 0, Value.int IntKind.u8 0, Value.int IntKind.u8 0,
 Value.int IntKind.u8 0, Value.int IntKind.u8 0, Value.int IntKind.u8 0, Value.int IntKind.u8 0]
 0,
 Blk.mk n 53
 [Value.int IntKind.u8 1, Value.int IntKind.u8 0, Value.int IntKind.u8 0, Value.int IntKind.u8 0,
 Value.int IntKind.u8 0, Value.int IntKind.u8 0, Value.int IntKind.u8 0, Value.int IntKind.u8 0,
 Value.int IntKind.u8 0, Value.int IntKind.u8 0, Value.int IntKind.u8 0, Value.int IntKind.u8 0,
 Value.int IntKind.u8 0, Value.int IntKind.u8 0, Value.int IntKind.u8 0, Value.int IntKind.u8 0]
 0]
 w' W →
 CallsS Tryz.prog 22
 #[Value.pointer x,
 Value.agg
 #[Value.int IntKind.u8 1, Value.int IntKind.u8 0, Value.int IntKind.u8 0, Value.int IntKind.u8 0,
 Value.int IntKind.u8 0, Value.int IntKind.u8 0, Value.int IntKind.u8 0, Value.int IntKind.u8 0,
 Value.int IntKind.u8 0, Value.int IntKind.u8 0, Value.int IntKind.u8 0, Value.int IntKind.u8 0,
 Value.int IntKind.u8 0, Value.int IntKind.u8 0, Value.int IntKind.u8 0, Value.int IntKind.u8 0,
 Value.int IntKind.u8 0, Value.int IntKind.u8 0, Value.int IntKind.u8 0, Value.int IntKind.u8 0,
 Value.int IntKind.u8 0, Value.int IntKind.u8 0, Value.int IntKind.u8 0, Value.int IntKind.u8 0,
 Value.int IntKind.u8 0, Value.int IntKind.u8 0, Value.int IntKind.u8 0, Value.int IntKind.u8 0,
 Value.int IntKind.u8 0, Value.int IntKind.u8 0, Value.int IntKind.u8 0, Value.int IntKind.u8 0,
 Value.int IntKind.u8 1, Value.int IntKind.u8 0, Value.int IntKind.u8 0, Value.int IntKind.u8 0,
 Value.int IntKind.u8 0, Value.int IntKind.u8 0, Value.int IntKind.u8 0, Value.int IntKind.u8 0,
 Value.int IntKind.u8 0, Value.int IntKind.u8 0, Value.int IntKind.u8 0, Value.int IntKind.u8 0,
 Value.int IntKind.u8 0, Value.int IntKind.u8 0, Value.int IntKind.u8 0, Value.int IntKind.u8 0,
 Value.string (ByteArray.mk #[99, 111, 109, 112, 46, 111, 115]), Value.int IntKind.i64 1, Value.bool false,
 Value.bool true, Value.slice (some (Addr.mk n_3 0 none)) 1 1, Value.string (ByteArray.mk #[])]]
 W fun (e : Ending) (w' : World) =>
 ∃ (x_3 : Int),
 e = Ending.returned (Value.int IntKind.i64 x_3) ∧
 KeptL [n_1, n] W w' ∧
 CallsS Tryz.prog 22
 #[Value.pointer x,
 Value.agg
 #[Value.int IntKind.u8 2, Value.int IntKind.u8 0, Value.int IntKind.u8 0, Value.int IntKind.u8 0,
 Value.int IntKind.u8 0, Value.int IntKind.u8 0, Value.int IntKind.u8 0, Value.int IntKind.u8 0,
 Value.int IntKind.u8 0, Value.int IntKind.u8 0, Value.int IntKind.u8 0, Value.int IntKind.u8 0,
 Value.int IntKind.u8 0, Value.int IntKind.u8 0, Value.int IntKind.u8 0, Value.int IntKind.u8 0,
 Value.int IntKind.u8 0, Value.int IntKind.u8 0, Value.int IntKind.u8 0, Value.int IntKind.u8 0,
 Value.int IntKind.u8 0, Value.int IntKind.u8 0, Value.int IntKind.u8 0, Value.int IntKind.u8 0,
 Value.int IntKind.u8 0, Value.int IntKind.u8 0, Value.int IntKind.u8 0, Value.int IntKind.u8 0,
 Value.int IntKind.u8 0, Value.int IntKind.u8 0, Value.int IntKind.u8 0, Value.int IntKind.u8 0,
 Value.int IntKind.u8 2, Value.int IntKind.u8 0, Value.int IntKind.u8 0, Value.int IntKind.u8 0,
 Value.int IntKind.u8 0, Value.int IntKind.u8 0, Value.int IntKind.u8 0, Value.int IntKind.u8 0,
 Value.int IntKind.u8 0, Value.int IntKind.u8 0, Value.int IntKind.u8 0, Value.int IntKind.u8 0,
 Value.int IntKind.u8 0, Value.int IntKind.u8 0, Value.int IntKind.u8 0, Value.int IntKind.u8 0,
 Value.string (ByteArray.mk #[99, 111, 109, 112, 46, 111, 115]), Value.int IntKind.i64 1,
 Value.bool false, Value.bool false, Value.slice none 0 0, Value.string (ByteArray.mk #[])]]
 w' fun (e : Ending) (w'_1 : World) =>
 ∃ (x_4 : Int),
 e = Ending.returned (Value.int IntKind.i64 x_4) ∧
 KeptL [n_1, n] w' w'_1 ∧
 CallsS Tryz.prog 22
 #[Value.pointer x,
 Value.agg
 #[Value.int IntKind.u8 3, Value.int IntKind.u8 0, Value.int IntKind.u8 0, Value.int IntKind.u8 0,
 Value.int IntKind.u8 0, Value.int IntKind.u8 0, Value.int IntKind.u8 0, Value.int IntKind.u8 0,
 Value.int IntKind.u8 0, Value.int IntKind.u8 0, Value.int IntKind.u8 0, Value.int IntKind.u8 0,
 Value.int IntKind.u8 0, Value.int IntKind.u8 0, Value.int IntKind.u8 0, Value.int IntKind.u8 0,
 Value.int IntKind.u8 0, Value.int IntKind.u8 0, Value.int IntKind.u8 0, Value.int IntKind.u8 0,
 Value.int IntKind.u8 0, Value.int IntKind.u8 0, Value.int IntKind.u8 0, Value.int IntKind.u8 0,
 Value.int IntKind.u8 0, Value.int IntKind.u8 0, Value.int IntKind.u8 0, Value.int IntKind.u8 0,
 Value.int IntKind.u8 0, Value.int IntKind.u8 0, Value.int IntKind.u8 0, Value.int IntKind.u8 0,
 Value.int IntKind.u8 1, Value.int IntKind.u8 0, Value.int IntKind.u8 0, Value.int IntKind.u8 0,
 Value.int IntKind.u8 0, Value.int IntKind.u8 0, Value.int IntKind.u8 0, Value.int IntKind.u8 0,
 Value.int IntKind.u8 0, Value.int IntKind.u8 0, Value.int IntKind.u8 0, Value.int IntKind.u8 0,
 Value.int IntKind.u8 0, Value.int IntKind.u8 0, Value.int IntKind.u8 0, Value.int IntKind.u8 0,
 Value.string (ByteArray.mk #[97, 108, 116, 46, 120]), Value.int IntKind.i64 1, Value.bool false,
 Value.bool false, Value.slice none 0 0, Value.string (ByteArray.mk #[])]]
 w'_1 fun (e : Ending) (w' : World) =>
 ∃ (x_5 : Int),
 e = Ending.returned (Value.int IntKind.i64 x_5) ∧
 KeptL [n_1, n] w'_1 w' ∧
 CallsS Tryz.prog 32
 #[Value.pointer x, Value.string (ByteArray.mk #[99, 111, 109, 112, 46, 111, 115])] w'
 fun (e : Ending) (w'_2 : World) =>
 ∃ (x_6 : Bool),
 e = Ending.returned (Value.bool x_6) ∧
 KeptL [n_1, n] w' w'_2 ∧
 CallsS Tryz.prog 22
 #[Value.pointer x,
 Value.agg
 #[Value.int IntKind.u8 9, Value.int IntKind.u8 0, Value.int IntKind.u8 0,
 Value.int IntKind.u8 0, Value.int IntKind.u8 0, Value.int IntKind.u8 0,
 Value.int IntKind.u8 0, Value.int IntKind.u8 0, Value.int IntKind.u8 0,
 Value.int IntKind.u8 0, Value.int IntKind.u8 0, Value.int IntKind.u8 0,
 Value.int IntKind.u8 0, Value.int IntKind.u8 0, Value.int IntKind.u8 0,
 Value.int IntKind.u8 0, Value.int IntKind.u8 0, Value.int IntKind.u8 0,
 Value.int IntKind.u8 0, Value.int IntKind.u8 0, Value.int IntKind.u8 0,
 Value.int IntKind.u8 0, Value.int IntKind.u8 0, Value.int IntKind.u8 0,
 Value.int IntKind.u8 0, Value.int IntKind.u8 0, Value.int IntKind.u8 0,
 Value.int IntKind.u8 0, Value.int IntKind.u8 0, Value.int IntKind.u8 0,
 Value.int IntKind.u8 0, Value.int IntKind.u8 0, Value.int IntKind.u8 1,
 Value.int IntKind.u8 0, Value.int IntKind.u8 0, Value.int IntKind.u8 0,
 Value.int IntKind.u8 0, Value.int IntKind.u8 0, Value.int IntKind.u8 0,
 Value.int IntKind.u8 0, Value.int IntKind.u8 0, Value.int IntKind.u8 0,
 Value.int IntKind.u8 0, Value.int IntKind.u8 0, Value.int IntKind.u8 0,
 Value.int IntKind.u8 0, Value.int IntKind.u8 0, Value.int IntKind.u8 0,
 Value.string (ByteArray.mk #[99, 111, 109, 112, 46, 111, 115]), Value.int IntKind.i64 2,
 Value.bool true, Value.bool false, Value.slice none 0 0, Value.string (ByteArray.mk #[])]]
 w'_2 fun (e : Ending) (w' : World) =>
 ∃ (x_7 : Int),
 e = Ending.returned (Value.int IntKind.i64 x_7) ∧
 KeptL [n_1, n] w'_2 w' ∧
 CallsS Tryz.prog 29
 #[Value.pointer x, Value.string (ByteArray.mk #[99, 111, 109, 112, 46, 111, 115])] w'
 fun (e : Ending) (w'_3 : World) =>
 ∃ (f : Nat → Int),
 ∃ (f_1 : Nat → Int),
 ∃ (x_8 : ByteArray),
 ∃ (x_9 : Int),
 ∃ (x_10 : Bool),
 ∃ (x_11 : Bool),
 ∃ (p : Option Addr),
 ∃ (n_4 : Nat),
 ∃ (c : Nat),
 ∃ (x_12 : ByteArray),
 ∃ (x_13 : Bool),
 e =
 Ending.returned
 (Value.tuple
 #[Value.agg
 (arrI IntKind.u8 f 32 0 ++ (arrI IntKind.u8 f_1 16 0 ++ [Value.string x_8, Value.int IntKind.i64 x_9, Value.bool x_10,
 Value.bool x_11, Value.slice p n_4 c, Value.string x_12])).toArray,
 Value.bool x_13]) ∧
 KeptL [n_1, n] w' w'_3 ∧
 ∀ (n_5 : Nat) (W : World),
 Loc w.heap.size
 [Blk.mk n_5 56
 (arrI IntKind.u8 f 32 0 ++ (arrI IntKind.u8 f_1 16 0 ++ [Value.string x_8, Value.int IntKind.i64 x_9, Value.bool x_10,
 Value.bool x_11, Value.slice p n_4 c, Value.string x_12]))
 (wrM 2),
 Blk.mk n_1 53
 [Value.int IntKind.u8 2, Value.int IntKind.u8 0,
 Value.int IntKind.u8 0, Value.int IntKind.u8 0,
 Value.int IntKind.u8 0, Value.int IntKind.u8 0,
 Value.int IntKind.u8 0, Value.int IntKind.u8 0,
 Value.int IntKind.u8 0, Value.int IntKind.u8 0,
 Value.int IntKind.u8 0, Value.int IntKind.u8 0,
 Value.int IntKind.u8 0, Value.int IntKind.u8 0,
 Value.int IntKind.u8 0, Value.int IntKind.u8 0]
 0,
 Blk.mk n 53
 [Value.int IntKind.u8 1, Value.int IntKind.u8 0,
 Value.int IntKind.u8 0, Value.int IntKind.u8 0,
 Value.int IntKind.u8 0, Value.int IntKind.u8 0,
 Value.int IntKind.u8 0, Value.int IntKind.u8 0,
 Value.int IntKind.u8 0, Value.int IntKind.u8 0,
 Value.int IntKind.u8 0, Value.int IntKind.u8 0,
 Value.int IntKind.u8 0, Value.int IntKind.u8 0,
 Value.int IntKind.u8 0, Value.int IntKind.u8 0]
 0]
 w'_3 W →
 CallsS Tryz.prog 22
 #[Value.pointer x,
 Value.agg
 #[Value.int IntKind.u8 8, Value.int IntKind.u8 0,
 Value.int IntKind.u8 0, Value.int IntKind.u8 0,
 Value.int IntKind.u8 0, Value.int IntKind.u8 0,
 Value.int IntKind.u8 0, Value.int IntKind.u8 0,
 Value.int IntKind.u8 0, Value.int IntKind.u8 0,
 Value.int IntKind.u8 0, Value.int IntKind.u8 0,
 Value.int IntKind.u8 0, Value.int IntKind.u8 0,
 Value.int IntKind.u8 0, Value.int IntKind.u8 0,
 Value.int IntKind.u8 0, Value.int IntKind.u8 0,
 Value.int IntKind.u8 0, Value.int IntKind.u8 0,
 Value.int IntKind.u8 0, Value.int IntKind.u8 0,
 Value.int IntKind.u8 0, Value.int IntKind.u8 0,
 Value.int IntKind.u8 0, Value.int IntKind.u8 0,
 Value.int IntKind.u8 0, Value.int IntKind.u8 0,
 Value.int IntKind.u8 0, Value.int IntKind.u8 0,
 Value.int IntKind.u8 0, Value.int IntKind.u8 0,
 Value.int IntKind.u8 1, Value.int IntKind.u8 0,
 Value.int IntKind.u8 0, Value.int IntKind.u8 0,
 Value.int IntKind.u8 0, Value.int IntKind.u8 0,
 Value.int IntKind.u8 0, Value.int IntKind.u8 0,
 Value.int IntKind.u8 0, Value.int IntKind.u8 0,
 Value.int IntKind.u8 0, Value.int IntKind.u8 0,
 Value.int IntKind.u8 0, Value.int IntKind.u8 0,
 Value.int IntKind.u8 0, Value.int IntKind.u8 0,
 Value.string (ByteArray.mk #[99, 111, 109, 112, 46, 111, 115]),
 Value.int IntKind.i64 2, Value.bool false, Value.bool false,
 Value.slice none 0 0, Value.string (ByteArray.mk #[120])]]
 W fun (e : Ending) (w' : World) =>
 ∃ (x_14 : Int),
 e = Ending.returned (Value.int IntKind.i64 x_14) ∧
 KeptL [n_5, n_1, n] W w' ∧
 CallsS Tryz.prog 29
 #[Value.pointer x,
 Value.string (ByteArray.mk #[99, 111, 109, 112, 46, 111, 115])]
 w' fun (e : Ending) (w'_4 : World) =>
 ∃ (f_2 : Nat → Int),
 ∃ (f_3 : Nat → Int),
 ∃ (x_15 : ByteArray),
 ∃ (x_16 : Int),
 ∃ (x_17 : Bool),
 ∃ (x_18 : Bool),
 ∃ (p_1 : Option Addr),
 ∃ (n_6 : Nat),
 ∃ (c_1 : Nat),
 ∃ (x_19 : ByteArray),
 ∃ (x_20 : Bool),
 e =
 Ending.returned
 (Value.tuple
 #[Value.agg
 (arrI IntKind.u8 f_2 32 0 ++ (arrI IntKind.u8 f_3 16 0 ++ [Value.string x_15,
 Value.int IntKind.i64 x_16, Value.bool x_17,
 Value.bool x_18, Value.slice p_1 n_6 c_1,
 Value.string x_19])).toArray,
 Value.bool x_20]) ∧
 KeptL [n_5, n_1, n] w' w'_4 ∧
 ∀ (n_7 : Nat),
 ∃ (x_21 : ByteArray),
 gimp
 (x_2 == 0 && x_3 == 0 && x_4 == 20 && x_5 == 20 &&
 x_6 &&
 x_7 == 0 &&
 !x_13 &&
 x_14 == 0 &&
 x_20)
 (∀ (W : World),
 Loc w.heap.size
 [Blk.mk n_7 56
 (arrI IntKind.u8 f_2 32 0 ++ (arrI IntKind.u8 f_3 16 0 ++ [Value.string x_15, Value.int IntKind.i64 x_16,
 Value.bool x_17, Value.bool x_18,
 Value.slice p_1 n_6 c_1, Value.string x_19]))
 (wrM 2),
 Blk.mk n_5 56
 (arrI IntKind.u8 f 32 0 ++ (arrI IntKind.u8 f_1 16 0 ++ [Value.string x_8, Value.int IntKind.i64 x_9,
 Value.bool x_10, Value.bool x_11,
 Value.slice p n_4 c, Value.string x_12]))
 0,
 Blk.mk n_1 53
 [Value.int IntKind.u8 2,
 Value.int IntKind.u8 0,
 Value.int IntKind.u8 0,
 Value.int IntKind.u8 0,
 Value.int IntKind.u8 0,
 Value.int IntKind.u8 0,
 Value.int IntKind.u8 0,
 Value.int IntKind.u8 0,
 Value.int IntKind.u8 0,
 Value.int IntKind.u8 0,
 Value.int IntKind.u8 0,
 Value.int IntKind.u8 0,
 Value.int IntKind.u8 0,
 Value.int IntKind.u8 0,
 Value.int IntKind.u8 0,
 Value.int IntKind.u8 0]
 0,
 Blk.mk n 53
 [Value.int IntKind.u8 1,
 Value.int IntKind.u8 0,
 Value.int IntKind.u8 0,
 Value.int IntKind.u8 0,
 Value.int IntKind.u8 0,
 Value.int IntKind.u8 0,
 Value.int IntKind.u8 0,
 Value.int IntKind.u8 0,
 Value.int IntKind.u8 0,
 Value.int IntKind.u8 0,
 Value.int IntKind.u8 0,
 Value.int IntKind.u8 0,
 Value.int IntKind.u8 0,
 Value.int IntKind.u8 0,
 Value.int IntKind.u8 0,
 Value.int IntKind.u8 0]
 0]
 w'_4 W →
 W.cell? (Addr.mk n_7 (0 + 53) none) =
 some (Value.string x_21)) ∧
 ∀ (W : World),
 Loc w.heap.size
 [Blk.mk n_7 56
 (arrI IntKind.u8 f_2 32 0 ++ (arrI IntKind.u8 f_3 16 0 ++ [Value.string x_15, Value.int IntKind.i64 x_16,
 Value.bool x_17, Value.bool x_18,
 Value.slice p_1 n_6 c_1, Value.string x_19]))
 (wrM 2),
 Blk.mk n_5 56
 (arrI IntKind.u8 f 32 0 ++ (arrI IntKind.u8 f_1 16 0 ++ [Value.string x_8, Value.int IntKind.i64 x_9,
 Value.bool x_10, Value.bool x_11,
 Value.slice p n_4 c, Value.string x_12]))
 0,
 Blk.mk n_1 53
 [Value.int IntKind.u8 2, Value.int IntKind.u8 0,
 Value.int IntKind.u8 0, Value.int IntKind.u8 0,
 Value.int IntKind.u8 0, Value.int IntKind.u8 0,
 Value.int IntKind.u8 0, Value.int IntKind.u8 0,
 Value.int IntKind.u8 0, Value.int IntKind.u8 0,
 Value.int IntKind.u8 0, Value.int IntKind.u8 0,
 Value.int IntKind.u8 0, Value.int IntKind.u8 0,
 Value.int IntKind.u8 0, Value.int IntKind.u8 0]
 0,
 Blk.mk n 53
 [Value.int IntKind.u8 1, Value.int IntKind.u8 0,
 Value.int IntKind.u8 0, Value.int IntKind.u8 0,
 Value.int IntKind.u8 0, Value.int IntKind.u8 0,
 Value.int IntKind.u8 0, Value.int IntKind.u8 0,
 Value.int IntKind.u8 0, Value.int IntKind.u8 0,
 Value.int IntKind.u8 0, Value.int IntKind.u8 0,
 Value.int IntKind.u8 0, Value.int IntKind.u8 0,
 Value.int IntKind.u8 0, Value.int IntKind.u8 0]
 0]
 w'_4 W →
 bsp
 (x_2 == 0 && x_3 == 0 && x_4 == 20 && x_5 == 20 &&
 x_6 &&
 x_7 == 0 &&
 !x_13 &&
 x_14 == 0 &&
 x_20 &&
 x_21.toList == [(ByteArray.mk #[120]).get! 0])
 (CallsS Tryz.prog 20
 #[Value.pointer x,
 Value.string
 (ByteArray.mk
 #[99, 111, 109, 112, 46, 111, 115]),
 Value.agg
 #[Value.int IntKind.u8 2,
 Value.int IntKind.u8 0,
 Value.int IntKind.u8 0,
 Value.int IntKind.u8 0,
 Value.int IntKind.u8 0,
 Value.int IntKind.u8 0,
 Value.int IntKind.u8 0,
 Value.int IntKind.u8 0,
 Value.int IntKind.u8 0,
 Value.int IntKind.u8 0,
 Value.int IntKind.u8 0,
 Value.int IntKind.u8 0,
 Value.int IntKind.u8 0,
 Value.int IntKind.u8 0,
 Value.int IntKind.u8 0,
 Value.int IntKind.u8 0]]
 W fun (e : Ending) (w' : World) =>
 ∃ (x_22 : Bool),
 e = Ending.returned (Value.bool x_22) ∧
 KeptL [n_7, n_5, n_1, n] W w' ∧
 bsp (true && x_22)
 (CallsS Tryz.prog 19 #[Value.pointer x] w'
 fun (e : Ending) (w'_5 : World) =>
 ∃ (x : Int),
 e =
 Ending.returned
 (Value.int IntKind.i64 x) ∧
 KeptL [n_7, n_5, n_1, n] w' w'_5 ∧
 R
 (Ending.returned
 (Value.bool (true && x == 3)))
 w'_5)
 (KeptL [n_7, n_5, n_1, n] w' w' ∧
 R (Ending.returned (Value.bool false)) w'))
 (KeptL [n_7, n_5, n_1, n] W W ∧
 KeptL [n_7, n_5, n_1, n] W W ∧
 R (Ending.returned (Value.bool false)) W)
theorem vc_lknown (w : World) (R : Ending → World → Prop) (h : VC_lknown w R) : Calls Tryz.prog 15 ([] : List Value).toArray w R := by
  have e : execR2 { P := Tryz.prog, loops := [], pur := pur1, tails := [], joins := [], boxes := [] } Tryz.f15.results.toList R (Tryz.f15.body.getD .skip) (initF [] (Tryz.f15.ntmps - ([] : List Value).length)) w = VC_lknown w R := by kernel_rfl
  have hb : Tryz.f15.body = some (Tryz.f15.body.getD .skip) := by kernel_rfl
  exact calls_of_exec2' (P := Tryz.prog) (fn := Tryz.f15) (c := Tryz.f15.body.getD .skip) (args := []) (w := w) (R := R) pur1_ok Tryz.func15 hb e h

end Go.Proofs.YtkkfnlehlkiejaaGreatDoor

/- Chapter 21: the examples of the chapter hold. The library's variable MaxLen holds a number. -/
namespace Go.Proofs.YtkkfnlehlkiejaaGreatDoor
open Go.RowKit Go.Maps

def kf (v : Int) : Nat → Int
  | 0 => v
  | _ + 1 => 0
theorem kf_BY {v : Int} (h : 0 ≤ v ∧ v ≤ 255) : BY (kf v) := fun j => by cases j <;> simp [kf] <;> omega
def kS : ByteArray := ⟨#[99, 111, 109, 112, 46, 111, 115]⟩
def kA : List Au := [⟨⟨#[99, 111, 109, 112, 46, 42]⟩, kf 1⟩]
def kd1 : Df := ⟨kf 1, kf 1, kS, 1, false, true, [kf 2], ⟨#[]⟩⟩
def kd2 : Df := ⟨kf 2, kf 2, kS, 1, false, false, [], ⟨#[]⟩⟩
def kd3 : Df := ⟨kf 3, kf 1, ⟨#[97, 108, 116, 46, 120]⟩, 1, false, false, [], ⟨#[]⟩⟩
def kd9 : Df := ⟨kf 9, kf 1, kS, 2, true, false, [], ⟨#[]⟩⟩
def kd8 : Df := ⟨kf 8, kf 1, kS, 2, false, false, [], ⟨#[120]⟩⟩
theorem k_new : newE kA 0 = (0, 0) := by decide +kernel
theorem k_c1 : dchk kd1 = 0 := by decide +kernel
theorem k_c2 : dchk kd2 = 0 := by decide +kernel
theorem k_c3 : dchk kd3 = 0 := by decide +kernel
theorem k_c9 : dchk kd9 = 0 := by decide +kernel
theorem k_c8 : dchk kd8 = 0 := by decide +kernel
theorem k_a1 : isAu kA kS (kf 1) = true := by decide +kernel
theorem k_a2 : isAu kA kS (kf 2) = false := by decide +kernel
theorem k_a3 : isAu kA ⟨#[97, 108, 116, 46, 120]⟩ (kf 1) = false := by decide +kernel
theorem k_n19 : ¬ idI (kf 1) = idI (kf 9) := by decide +kernel
theorem k_n18 : ¬ idI (kf 1) = idI (kf 8) := by decide +kernel
theorem k_n98 : ¬ idI (kf 9) = idI (kf 8) := by decide +kernel
def cfd (a b : Df) : Int := cfD ⟨a, none, 0⟩ ⟨b, none, 0⟩
theorem cfd_eq (x y : DX) : cfD x y = cfd x.d y.d := rfl
theorem k_91 : cfd kd9 kd1 < 0 := by decide +kernel
theorem k_81 : cfd kd8 kd1 < 0 := by decide +kernel
theorem k_89 : cfd kd8 kd9 < 0 := by decide +kernel
theorem head_min {cs : List DX} {L : List Df} {m : Df} (hp : (cs.map fun x : DX => x.d).Perm L) (hs : cs.Pairwise (fun x y => ¬ cfD y x < 0)) (hm : m ∈ L) (hL : ∀ d ∈ L, d = m ∨ cfd m d < 0) : ∃ x t, cs = x :: t ∧ x.d = m := by
  cases cs with
  | nil =>
    have := hp.symm.subset hm
    cases this
  | cons x t =>
    refine ⟨x, t, rfl, ?_⟩
    rcases hL x.d (hp.subset (by simp)) with h | h
    · exact h
    · have h1 := hp.symm.subset hm
      rw [List.map_cons] at h1
      rcases List.mem_cons.1 h1 with h1 | h1
      · exact h1.symm
      · obtain ⟨y, hy, e⟩ := List.mem_map.1 h1
        have := (List.pairwise_cons.1 hs).1 y hy
        rw [cfd_eq, e] at this
        exact absurd h this
theorem Reg.lenA {w : World} {b mb : Nat} {l : List (List Int × DX)} (_h : Reg w b mb kA l) : kA.length ≤ 64 := by decide
theorem mods_nil (w : World) : RowA auC 16 w none [] := RowA.nil
theorem ok_1 : kd1.OK := ⟨kf_BY (by decide), kf_BY (by decide), fun m hm => by simp [kd1] at hm; subst hm; exact kf_BY (by decide)⟩
theorem ok_2 : kd2.OK := ⟨kf_BY (by decide), kf_BY (by decide), fun m hm => by cases hm⟩
theorem ok_3 : kd3.OK := ⟨kf_BY (by decide), kf_BY (by decide), fun m hm => by cases hm⟩
theorem ok_9 : kd9.OK := ⟨kf_BY (by decide), kf_BY (by decide), fun m hm => by cases hm⟩
theorem ok_8 : kd8.OK := ⟨kf_BY (by decide), kf_BY (by decide), fun m hm => by cases hm⟩
theorem addE_au {A : List Au} {l : List (List Int × DX)} {d : Df} (h1 : dchk d = 0) (h2 : isAu A d.g d.au = false) : addE A l d = 20 := by
  unfold addE; rw [if_neg (by rw [h1]; decide), if_pos h2]
theorem addE_ok {A : List Au} {l : List (List Int × DX)} {d : Df} (h1 : dchk d = 0) (h2 : isAu A d.g d.au = true) (h3 : aget l (idI d.id) = none) (h4 : l.length < 4096) : addE A l d = 0 := by
  unfold addE; rw [if_neg (by rw [h1]; decide), if_neg (by rw [h2]; decide), if_neg (by rw [h3]; decide), if_neg (by omega)]
/-- An addition that succeeds, and one that does not. -/
theorem radd_yes {w : World} {b mb : Nat} {A : List Au} {l : List (List Int × DX)} (h : Reg w b mb A l) (hAl : A.length ≤ 64) (x : DX) (hR : RowA auC 16 w x.p x.d.ms) (hc : x.d.ms.length ≤ x.c) (ho : x.d.OK) (hG : GW w) (he : addE A l x.d = 0) :
    Calls Tryz.prog 22 #[.pointer (some ⟨b, 0, none⟩), dfV x] w fun e w' => e = .returned (.int .i64 0) ∧ ∃ (p' : Option Addr) (c' : Nat), Reg w' b mb A (aset l (idI x.d.id) ⟨x.d, p', c'⟩) ∧ Kp (· = mb) w w' :=
  (radd_any h hAl x hR hc ho hG).mono fun e w' ⟨h1, h2⟩ => by
    rw [he] at h1
    refine ⟨h1, ?_⟩
    rcases h2 with ⟨h2, _⟩ | ⟨_, p', c', h2, _, h3⟩
    · exact absurd he h2
    · exact ⟨p', c', h2, h3⟩
theorem radd_no {w : World} {b mb : Nat} {A : List Au} {l : List (List Int × DX)} (h : Reg w b mb A l) (hAl : A.length ≤ 64) (x : DX) (hR : RowA auC 16 w x.p x.d.ms) (hc : x.d.ms.length ≤ x.c) (ho : x.d.OK) (hG : GW w) {er : Int} (he : addE A l x.d = er) (hne : er ≠ 0) :
    Calls Tryz.prog 22 #[.pointer (some ⟨b, 0, none⟩), dfV x] w fun e w' => e = .returned (.int .i64 er) ∧ Reg w' b mb A l ∧ K0 w w' :=
  (radd_any h hAl x hR hc ho hG).mono fun e w' ⟨h1, h2⟩ => by
    rw [he] at h1 h2
    refine ⟨h1, ?_⟩
    rcases h2 with ⟨_, h2, h3⟩ | ⟨h2, _⟩
    · exact ⟨h2, h3⟩
    · exact absurd h2 hne
set_option maxRecDepth 100000 in
set_option maxHeartbeats 4000000 in
theorem known_any (w : World) (hG : GW w) : Calls Tryz.prog 15 #[] w fun e w' => e = .returned (.bool true) ∧ K0 w w' := by
  refine vc_lknown w _ (fun n n1 n2 W hW => ?_)
  have kW : K0 w W := hW.kk rfl
  have bn := block_lt (hW.cells 2 rfl)
  have bn1 := block_lt (hW.cells 1 rfl)
  simp only at bn bn1
  have hrA : RowA atC 17 W (some ⟨n2, 0, none⟩) kA := fun k y hy => by
    match k, hy with
    | 0, hy => cases hy; exact ⟨n2, 0, rfl, AtL_block (hW.cells 0 rfl) rfl⟩
    | k + 1, hy => cases hy
  refine ⟨(rnew_any kA (some ⟨n2, 0, none⟩) 1 W hrA (fun x hx => by simp [kA] at hx; subst hx; exact kf_BY (by decide)) (fun x hx => by simp [kA] at hx; subst hx; decide) (hG.kp kW (fun h => h))).mono fun e w1 ⟨hQ, k1⟩ => ?_⟩
  rcases hQ with ⟨h, _⟩ | ⟨_, h, _⟩ | ⟨_, _, b, mb, he, hReg, gb, gm⟩
  · exact absurd h (by decide)
  · rw [k_new] at h; exact absurd rfl h
  refine ⟨_, _, _, he, .of_k0 k1, fun n3 W2 hW2 => ?_⟩
  have kT1 := kW.trans k1
  have k2 : K0 w1 W2 := hW2.kk rfl
  have kT2 := kT1.trans k2
  have gmw : w.heap.size ≤ mb := Nat.le_trans kW.size gm
  have hl := hReg.lenA
  have fresh : ∀ {wa wb : World}, K0 w wa → Kp (· = mb) wa wb → K0 w wb := fun ka hk => ka.fresh hk (fun j hj e => by have e : j = mb := e; omega)
  have kept : ∀ {wa wb : World}, Kp (· = mb) wa wb → KeptL [n1, n] wa wb := fun hk => .of_kp hk (fun z hz e => by
    simp only [List.mem_cons, List.not_mem_nil, or_false] at hz
    have e : z = mb := e
    rcases hz with hz | hz <;> omega)
  have hG' : ∀ {wa : World}, K0 w wa → GW wa := fun k => hG.kp k (fun h => h)
  have hm1 : RowA auC 16 W2 (some ⟨n3, 0, none⟩) [kf 2] := fun k y hy => by
    match k, hy with
    | 0, hy => cases hy; exact ⟨n3, 0, rfl, AtL_block (hW2.cells 0 rfl) rfl⟩
    | k + 1, hy => cases hy
  refine ⟨(radd_yes (hReg.k0 k2) hl ⟨kd1, some ⟨n3, 0, none⟩, 1⟩ hm1 (Nat.le_refl 1) ok_1 (hG' kT2) (addE_ok k_c1 k_a1 rfl (by decide))).mono fun e w3 ⟨he, p1, c1, hR3, k3⟩ => ⟨_, he, kept k3, ?_⟩⟩
  have kT3 := fresh kT2 k3
  have hR3 : Reg w3 b mb kA [(idI (kf 1), ⟨kd1, p1, c1⟩)] := hR3
  refine ⟨(radd_no hR3 hl ⟨kd2, none, 0⟩ (mods_nil _) (Nat.le_refl 0) ok_2 (hG' kT3) (addE_au k_c2 k_a2) (by decide)).mono fun e w4 ⟨he, hR4, k4⟩ => ⟨_, he, .of_k0 k4, ?_⟩⟩
  have kT4 := kT3.trans k4
  refine ⟨(radd_no hR4 hl ⟨kd3, none, 0⟩ (mods_nil _) (Nat.le_refl 0) ok_3 (hG' kT4) (addE_au k_c3 k_a3) (by decide)).mono fun e w5 ⟨he, hR5, k5⟩ => ⟨_, he, .of_k0 k5, ?_⟩⟩
  have kT5 := kT4.trans k5
  refine ⟨(rmod_any hR5 (show (1 : Nat) ≤ 4096 by decide) kS).mono fun e w6 ⟨⟨cs, hV, he⟩, k6⟩ => ?_⟩
  have hh6 : ((headC cs).isSome && ((headC cs).getD dxz).d.md) = true := by
    obtain ⟨x, t, rfl, hx⟩ := head_min (m := kd1) hV.1 hV.2 (by simp [accL, kd1]) (fun d hd => by simp [accL, kd1] at hd; exact .inl hd)
    have hh : headC (x :: t) = some x := if_neg (by rw [hx]; decide)
    rw [hh]
    show (true && x.d.md) = true
    rw [hx]; rfl
  rw [hh6] at he
  refine ⟨_, he, .of_k0 k6, ?_⟩
  have kT6 := kT5.trans k6
  have hg9 : aget [(idI (kf 1), (⟨kd1, p1, c1⟩ : DX))] (idI kd9.id) = none := by
    show (if idI (kf 1) = idI (kf 9) then _ else _) = none
    rw [if_neg k_n19]; rfl
  refine ⟨(radd_yes (hR5.k0 k6) hl ⟨kd9, none, 0⟩ (mods_nil _) (Nat.le_refl 0) ok_9 (hG' kT6) (addE_ok k_c9 k_a1 hg9 (show (1 : Nat) < 4096 by decide))).mono fun e w7 ⟨he, p9, c9, hR7, k7⟩ => ⟨_, he, kept k7, ?_⟩⟩
  have kT7 := fresh kT6 k7
  have es9 : aset [(idI (kf 1), (⟨kd1, p1, c1⟩ : DX))] (idI kd9.id) ⟨kd9, p9, c9⟩ = [(idI (kf 1), ⟨kd1, p1, c1⟩), (idI (kf 9), ⟨kd9, p9, c9⟩)] := by
    show (if idI (kf 1) = idI (kf 9) then _ else _) = _
    rw [if_neg k_n19]; rfl
  have hR7 : Reg w7 b mb kA [(idI (kf 1), ⟨kd1, p1, c1⟩), (idI (kf 9), ⟨kd9, p9, c9⟩)] := by rw [← es9]; exact hR7
  refine ⟨(rcur_any hR7 (show (2 : Nat) ≤ 4096 by decide) kS).mono fun e w8 ⟨⟨cs, hV, _, he⟩, k8⟩ => ?_⟩
  have hh8 : headC cs = none := by
    obtain ⟨x, t, rfl, hx⟩ := head_min (m := kd9) hV.1 hV.2 (by simp [accL, kd1, kd9]) (fun d hd => by
      have hd : d ∈ [kd1, kd9] := by simpa [accL, kd1, kd9] using hd
      simp only [List.mem_cons, List.not_mem_nil, or_false] at hd
      rcases hd with rfl | rfl
      · exact .inr k_91
      · exact .inl rfl)
    exact if_pos (by rw [hx]; rfl)
  rw [hh8] at he
  refine ⟨_, _, _, _, _, _, _, _, _, _, _, he, .of_k0 k8, fun n5 W9 hW9 => ?_⟩
  have kT8 := kT7.trans k8
  have k9 : K0 w8 W9 := hW9.kk rfl
  have kT9 := kT8.trans k9
  have g5 : w8.heap.size ≤ n5 := hW9.fresh 0 rfl rfl
  have hR9 := (hR7.k0 k8).k0 k9
  have hmb8 := (hR7.k0 k8).map.lt
  have kept5 : ∀ {wa wb : World}, Kp (· = mb) wa wb → KeptL [n5, n1, n] wa wb := fun hk => .of_kp hk (fun z hz e => by
    simp only [List.mem_cons, List.not_mem_nil, or_false] at hz
    have e : z = mb := e
    rcases hz with hz | hz | hz <;> omega)
  have hg8 : aget [(idI (kf 1), (⟨kd1, p1, c1⟩ : DX)), (idI (kf 9), ⟨kd9, p9, c9⟩)] (idI kd8.id) = none := by
    show (if idI (kf 1) = idI (kf 8) then _ else _) = none
    rw [if_neg k_n18]
    show (if idI (kf 9) = idI (kf 8) then _ else _) = none
    rw [if_neg k_n98]; rfl
  refine ⟨(radd_yes hR9 hl ⟨kd8, none, 0⟩ (mods_nil _) (Nat.le_refl 0) ok_8 (hG' kT9) (addE_ok k_c8 k_a1 hg8 (show (2 : Nat) < 4096 by decide))).mono fun e w10 ⟨he, p8, c8, hR10, k10⟩ => ⟨_, he, kept5 k10, ?_⟩⟩
  have kT10 := fresh kT9 k10
  have es8 : aset [(idI (kf 1), (⟨kd1, p1, c1⟩ : DX)), (idI (kf 9), ⟨kd9, p9, c9⟩)] (idI kd8.id) ⟨kd8, p8, c8⟩ = [(idI (kf 1), ⟨kd1, p1, c1⟩), (idI (kf 9), ⟨kd9, p9, c9⟩), (idI (kf 8), ⟨kd8, p8, c8⟩)] := by
    show (if idI (kf 1) = idI (kf 8) then _ else _ :: (if idI (kf 9) = idI (kf 8) then _ else _)) = _
    rw [if_neg k_n18, if_neg k_n98]; rfl
  have hR10 : Reg w10 b mb kA [(idI (kf 1), ⟨kd1, p1, c1⟩), (idI (kf 9), ⟨kd9, p9, c9⟩), (idI (kf 8), ⟨kd8, p8, c8⟩)] := by rw [← es8]; exact hR10
  refine ⟨(rcur_any hR10 (show (3 : Nat) ≤ 4096 by decide) kS).mono fun e w11 ⟨⟨cs, hV, _, he⟩, k11⟩ => ?_⟩
  obtain ⟨x, hh11, hx11⟩ : ∃ x : DX, headC cs = some x ∧ x.d = kd8 := by
    obtain ⟨x, t, rfl, hx⟩ := head_min (m := kd8) hV.1 hV.2 (by simp [accL, kd1, kd9, kd8]) (fun d hd => by
      have hd : d ∈ [kd1, kd9, kd8] := by simpa [accL, kd1, kd9, kd8] using hd
      simp only [List.mem_cons, List.not_mem_nil, or_false] at hd
      rcases hd with rfl | rfl | rfl
      · exact .inr k_81
      · exact .inr k_89
      · exact .inl rfl)
    exact ⟨x, if_neg (by rw [hx]; decide), hx⟩
  rw [hh11] at he
  have kT11 := kT10.trans k11
  have hR11 := hR10.k0 k11
  refine ⟨_, _, _, _, _, _, _, _, _, _, _, he, .of_k0 k11, fun n7 => ⟨x.d.tx, gimp_intro fun _ W12 hW12 => cell_at (hW12.cells 0 rfl) rfl, fun W12 hW12 => ?_⟩⟩
  have k12 : K0 w11 W12 := hW12.kk rfl
  have kT12 := kT11.trans k12
  have hR12 := hR11.k0 k12
  have htx : x.d.tx = ⟨#[120]⟩ := by rw [hx11]; rfl
  rw [htx]
  have ht : ((⟨#[120]⟩ : ByteArray).toList == [(⟨#[120]⟩ : ByteArray).get! 0]) = true := by decide +kernel
  refine bsp_intro (fun _ => ?_) (fun h => by rw [ht] at h; simp at h)
  refine ⟨(rever_any hR12 (show (3 : Nat) ≤ 4096 by decide) kS (kf 2) (kf_BY (by decide))).mono fun e w13 ⟨he, k13⟩ => ?_⟩
  have hev : ([(idI (kf 1), (⟨kd1, p1, c1⟩ : DX)), (idI (kf 9), ⟨kd9, p9, c9⟩), (idI (kf 8), ⟨kd8, p8, c8⟩)].any fun q => decide (q.2.d.g = kS) && decide (auI (kf 2) ∈ q.2.d.ms.map auI)) = true := by
    rw [List.any_cons]
    show ((decide (kd1.g = kS) && decide (auI (kf 2) ∈ kd1.ms.map auI)) || _) = true
    rw [show (decide (kd1.g = kS) && decide (auI (kf 2) ∈ kd1.ms.map auI)) = true by decide +kernel, Bool.true_or]
  rw [hev] at he
  refine ⟨_, he, .of_k0 k13, bsp_intro (fun _ => ?_) (fun h => absurd h (by decide))⟩
  refine ⟨(rlen_any (hR12.k0 k13)).mono fun e w14 ⟨he, k14⟩ => ⟨_, he, .of_k0 k14, rfl, (kT12.trans k13).trans k14⟩⟩

end Go.Proofs.YtkkfnlehlkiejaaGreatDoor

/- Matching by rows (plain): the marks of the program's Match are those of a table of prefixes. No condition. -/
namespace Go.Proofs.YtkkfnlehlkiejaaGreatDoor

def rowS (prev h : Nat → Bool) : Nat → Bool
  | 0 => prev 0
  | k + 1 => prev (k + 1) || (h k && rowS prev h k)
def rowC (prev h : Nat → Bool) : Nat → Bool
  | 0 => false
  | k + 1 => h k && prev k
/-- The first i elements match the first k characters. -/
def pmF (st : Nat → Bool) (h : Nat → Nat → Bool) : Nat → Nat → Bool
  | 0, k => k == 0
  | i + 1, k => if st i = true then rowS (pmF st h i) (h i) k else rowC (pmF st h i) (h i) k
theorem pmF_zero (st : Nat → Bool) (h : Nat → Nat → Bool) (i : Nat) : pmF st h (i + 1) 0 = (st i && pmF st h i 0) := by
  simp only [pmF]; cases st i <;> simp [rowS, rowC]
theorem pmF_succ (st : Nat → Bool) (h : Nat → Nat → Bool) (i k : Nat) : pmF st h (i + 1) (k + 1) = if st i = true then pmF st h i (k + 1) || (h i k && pmF st h (i + 1) k) else h i k && pmF st h i k := by
  simp only [pmF]; cases hs : st i <;> simp [rowS, rowC]
theorem run_pm (els : List El) (s : ByteArray) : ∀ (k j : Nat), runF els s k j = if elS els j = true then pmF (elS els) (fun i k => elH els i (at8 s k)) (j + 1) k else pmF (elS els) (fun i k => elH els i (at8 s k)) j k := by
  intro k
  induction k with
  | zero =>
    have key : ∀ j, spF (elS els) (fun j => j == 0) j = pmF (elS els) (fun i k => elH els i (at8 s k)) j 0 := by
      intro j
      induction j with
      | zero => rfl
      | succ j ih => rw [pmF_zero, spF, ih]; simp
    intro j
    rw [runF, key]
    split
    · rename_i hs; rw [pmF_zero, hs]; simp
    · rfl
  | succ k ih =>
    intro j
    rw [runF]
    induction j with
    | zero =>
      rw [spF]
      simp only [stpF, ih 0]
      cases hs : elS els 0 with
      | true => rw [if_pos rfl, if_pos rfl, pmF_succ, hs, if_pos rfl, Bool.and_comm]; simp [pmF]
      | false => simp [pmF]
    | succ j ihj =>
      rw [spF, ihj]
      have h1 : ((match j + 1 with | 0 => false | i + 1 => !elS els i && runF els s k i && elH els i (at8 s k)) || (elS els j && if elS els j = true then pmF (elS els) (fun i k => elH els i (at8 s k)) (j + 1) (k + 1) else pmF (elS els) (fun i k => elH els i (at8 s k)) j (k + 1))) = pmF (elS els) (fun i k => elH els i (at8 s k)) (j + 1) (k + 1) := by
        simp only [ih j]
        rw [pmF_succ]
        cases hs : elS els j with
        | true => simp
        | false => simp [Bool.and_comm]
      unfold stpF
      rw [Bool.or_assoc, h1, ih (j + 1)]
      cases hs : elS els (j + 1) with
      | true => rw [if_pos rfl, if_pos rfl, pmF_succ _ _ (j + 1), hs, if_pos rfl, Bool.or_comm, Bool.true_and, Bool.and_comm]
      | false => simp
/-- The program's Match by the table. -/
theorem match_pm (els : List El) (s : ByteArray) : matchB els s = pmF (elS els) (fun i k => elH els i (at8 s k)) els.length s.size := by
  unfold matchB
  rw [run_pm, if_neg (by simp [elS])]

end Go.Proofs.YtkkfnlehlkiejaaGreatDoor

/- Patterns of the reference (plain): matching by rows agrees with the program's Match, where the elements agree. No condition. -/
namespace Go.Proofs.YtkkfnlehlkiejaaGreatDoor

/-- An element of a pattern of the reference. -/
structure RE where
  star : Bool
  set : Nat → Bool
/-- An element and that of the reference. -/
structure RelE (e : El) (r : RE) : Prop where
  star : e.isStar = r.star
  set : r.star = false → ∀ c : Nat, c < 128 → hasB e.chars c = r.set c
  char : ∀ c : Int, 0 ≤ c → c ≤ 255 → hasB e.chars c = true → charB c = true
theorem name_char : ∀ c : Int, 0 ≤ c → c ≤ 255 → hasB nameBytes c = charB c := by
  have h : ∀ n : Fin 256, hasB nameBytes (n.val : Int) = charB (n.val : Int) := by decide +kernel
  intro c h0 h1
  have := h ⟨c.toNat, by omega⟩
  simp only at this
  rw [show ((c.toNat : Nat) : Int) = c by omega] at this
  exact this
theorem charB_lt {c : Int} (h : charB c = true) : 0 ≤ c ∧ c < 128 := by
  simp [charB, lowerB, digitB] at h
  omega
theorem pmF_congr {st st' : Nat → Bool} {h h' : Nat → Nat → Bool} : ∀ (i k : Nat), (∀ j, j < i → st j = st' j) → (∀ j l, j < i → l < k → h j l = h' j l) → pmF st h i k = pmF st' h' i k
  | 0, k, _, _ => rfl
  | i + 1, 0, h1, h2 => by
    rw [pmF_zero, pmF_zero, h1 i (by omega), pmF_congr i 0 (fun j hj => h1 j (by omega)) (fun j l hj hl => by omega)]
  | i + 1, k + 1, h1, h2 => by
    have a := pmF_congr i (k + 1) (fun j hj => h1 j (by omega)) (fun j l hj hl => h2 j l (by omega) hl)
    have b := pmF_congr (i + 1) k h1 (fun j l hj hl => h2 j l hj (by omega))
    have c := pmF_congr i k (fun j hj => h1 j (by omega)) (fun j l hj hl => h2 j l (by omega) (by omega))
    rw [pmF_succ, pmF_succ, h1 i (by omega), h2 i k (by omega) (by omega), a, b, c]
theorem pmF_dead {st : Nat → Bool} {h : Nat → Nat → Bool} {k0 : Nat} (hd : ∀ i, h i k0 = false) : ∀ (i k : Nat), k0 < k → pmF st h i k = false
  | 0, k, hk => by simp [pmF]; omega
  | i + 1, 0, hk => by omega
  | i + 1, k + 1, hk => by
    rw [pmF_succ, pmF_dead hd i (k + 1) hk]
    by_cases e : k = k0
    · subst e; rw [hd i]; simp
    · rw [pmF_dead hd (i + 1) k (by omega), pmF_dead hd i k (by omega)]; simp
def rS (rs : List RE) (j : Nat) : Bool := match rs[j]? with | some r => r.star | none => false
def rH (rs : List RE) (j c : Nat) : Bool := match rs[j]? with | some r => r.set c | none => false
/-- The reference's Match. -/
def rmatchB (rs : List RE) (s : ByteArray) : Bool := (List.range s.size).all (fun i => charB (at8 s i)) && pmF (rS rs) (fun i k => rS rs i || rH rs i (at8 s k).toNat) rs.length s.size
/-- Elements that agree, one by one. -/
structure RelEs (els : List El) (rs : List RE) : Prop where
  len : els.length = rs.length
  at_ : ∀ (j : Nat) (e : El) (r : RE), els[j]? = some e → rs[j]? = some r → RelE e r
theorem RelEs.snoc {els : List El} {rs : List RE} (h : RelEs els rs) {e : El} {r : RE} (hr : RelE e r) : RelEs (els ++ [e]) (rs ++ [r]) := by
  refine ⟨by simp [h.len], fun j e' r' he hr' => ?_⟩
  rw [List.getElem?_append] at he hr'
  rw [← h.len] at hr'
  split at he
  · rename_i hj
    rw [if_pos hj] at hr'
    exact h.at_ j _ _ he hr'
  · rename_i hj
    rw [if_neg hj] at hr'
    cases hjj : j - els.length with
    | zero => rw [hjj] at he hr'; simp at he hr'; subst he; subst hr'; exact hr
    | succ n => rw [hjj] at he; simp at he
theorem rel_match {els : List El} {rs : List RE} (h : RelEs els rs) (s : ByteArray) : matchB els s = rmatchB rs s := by
  rw [match_pm]
  unfold rmatchB
  cases ha : (List.range s.size).all (fun i => charB (at8 s i)) with
  | false =>
    rw [Bool.false_and]
    rw [List.all_eq_false] at ha
    obtain ⟨k0, hk0, hc⟩ := ha
    rw [List.mem_range] at hk0
    refine pmF_dead (k0 := k0) (fun i => ?_) _ _ hk0
    unfold elH
    cases he : els[i]? with
    | none => rfl
    | some e =>
      have hlt : i < rs.length := by rw [← h.len]; exact (List.getElem?_eq_some_iff.1 he).1
      have hr := h.at_ i e _ he (List.getElem?_eq_getElem hlt)
      simp only
      cases hh : hasB e.chars (at8 s k0) with
      | false => rfl
      | true => exact absurd (hr.char _ (at8_bd s k0).1 (at8_bd s k0).2 hh) hc
  | true =>
    rw [Bool.true_and, h.len]
    have hst : ∀ j, elS els j = rS rs j := fun j => by
      unfold elS rS
      rcases Nat.lt_or_ge j els.length with hj | hj
      · have hj' : j < rs.length := by rw [← h.len]; exact hj
        rw [List.getElem?_eq_getElem hj, List.getElem?_eq_getElem hj']
        exact (h.at_ j _ _ (List.getElem?_eq_getElem hj) (List.getElem?_eq_getElem hj')).star
      · rw [List.getElem?_eq_none hj, List.getElem?_eq_none (by rw [← h.len]; exact hj)]
    refine pmF_congr _ _ (fun j _ => hst j) (fun j l hj hl => ?_)
    have hc : charB (at8 s l) = true := List.all_eq_true.1 ha l (List.mem_range.2 hl)
    have hcb := charB_lt hc
    have hj0 : j < els.length := by rw [h.len]; exact hj
    have hr := h.at_ j _ _ (List.getElem?_eq_getElem hj0) (List.getElem?_eq_getElem hj)
    unfold elH rS rH
    rw [List.getElem?_eq_getElem hj0, List.getElem?_eq_getElem hj]
    simp only
    generalize els[j] = e at hr
    generalize rs[j] = r at hr
    cases hs : r.star with
    | true =>
      have : e = .star := by
        have h1 := hr.star
        rw [hs] at h1
        cases e <;> simp [El.isStar] at h1
        rfl
      subst this
      rw [Bool.true_or]
      show hasB nameBytes _ = true
      rw [name_char _ hcb.1 (by omega)]; exact hc
    | false =>
      rw [Bool.false_or]
      have := hr.set hs (at8 s l).toNat (by omega)
      rw [show (((at8 s l).toNat : Nat) : Int) = at8 s l by omega] at this
      exact this

theorem at8_byte {s : ByteArray} {k : Nat} (h : k < s.size) : s.data.toList[k]? = some (at8 s k).toNat.toUInt8 := by
  rw [at8_lt s k h, Array.getElem?_toList, Array.getElem?_eq_getElem (show k < s.data.size from h)]
  congr 1
  show s[k] = _
  rw [Int.toNat_natCast]
  simp
/-- An entry of a list of the reference. -/
structure REnt where
  t : ByteArray
  rs : List RE
  v : Int
def rverd (es : List REnt) (s : ByteArray) : Int := es.foldl (fun a e => if rmatchB e.rs s = true then e.v else a) 0
structure RelEnt (e : Ent) (r : REnt) : Prop where
  t : e.t = r.t
  v : e.v = r.v
  els : RelEs e.els r.rs
structure RelEnts (es : List Ent) (rs : List REnt) : Prop where
  len : es.length = rs.length
  at_ : ∀ (j : Nat) (e : Ent) (r : REnt), es[j]? = some e → rs[j]? = some r → RelEnt e r
theorem RelEnts.snoc {es : List Ent} {rs : List REnt} (h : RelEnts es rs) {e : Ent} {r : REnt} (hr : RelEnt e r) : RelEnts (es ++ [e]) (rs ++ [r]) := by
  refine ⟨by simp [h.len], fun j e' r' he hr' => ?_⟩
  rw [List.getElem?_append] at he hr'
  rw [← h.len] at hr'
  split at he
  · rename_i hj
    rw [if_pos hj] at hr'
    exact h.at_ j _ _ he hr'
  · rename_i hj
    rw [if_neg hj] at hr'
    cases hjj : j - es.length with
    | zero => rw [hjj] at he hr'; simp at he hr'; subst he; subst hr'; exact hr
    | succ n => rw [hjj] at he; simp at he
theorem rel_verd {es : List Ent} {rs : List REnt} (h : RelEnts es rs) (s : ByteArray) : verd es s = rverd rs s := by
  have key : ∀ (es : List Ent) (rs : List REnt) (a : Int), RelEnts es rs → es.foldl (fun a e => if matchB e.els s = true then e.v else a) a = rs.foldl (fun a e => if rmatchB e.rs s = true then e.v else a) a := by
    intro es
    induction es with
    | nil =>
      intro rs a h
      have := h.len
      cases rs with
      | nil => rfl
      | cons r rs => simp at this
    | cons e es ih =>
      intro rs a h
      cases rs with
      | nil => have := h.len; simp at this
      | cons r rs =>
        have h0 := h.at_ 0 e r rfl rfl
        simp only [List.foldl_cons]
        rw [rel_match h0.els s, h0.v]
        exact ih rs _ ⟨by have := h.len; simp at this; exact this, fun j e' r' he hr => h.at_ (j + 1) e' r' (by simpa using he) (by simpa using hr)⟩
  exact key es rs 0 h
def rselB (es : List REnt) (zs : List ByteArray) : Bool := zs.all (fun z => !(rverd es z == 3)) && zs.any (fun z => rverd es z == 1)
theorem rel_sel {es : List Ent} {rs : List REnt} (h : RelEnts es rs) (zs : List ByteArray) : selB es zs = rselB rs zs := by
  unfold selB rselB
  simp only [rel_verd h]

/-! ### Parts of a text -/
theorem indexByte_hit : ∀ (l : List UInt8) (c : UInt8) (i : Nat), l[i]? = some c → (∀ j, j < i → l[j]? ≠ some c) → Lib.indexByte l c = i
  | [], c, i, h, _ => by simp at h
  | b :: l, c, 0, h, _ => by simp at h; subst h; simp [Lib.indexByte]
  | b :: l, c, i + 1, h, hn => by
    have ih := indexByte_hit l c i (by simpa using h) (fun j hj => by have := hn (j + 1) (by omega); simpa using this)
    have hb : ¬ b = c := by have := hn 0 (by omega); simpa using this
    unfold Lib.indexByte
    simp only [ih]
    have : (b == c) = false := by simpa using hb
    simp [this]
theorem indexByte_miss : ∀ (l : List UInt8) (c : UInt8), (∀ j : Nat, l[j]? ≠ some c) → Lib.indexByte l c = -1
  | [], c, _ => rfl
  | b :: l, c, hn => by
    have ih := indexByte_miss l c (fun j => by have := hn (j + 1); simpa using this)
    have hb : ¬ b = c := by have := hn 0; simpa using this
    unfold Lib.indexByte
    have : (b == c) = false := by simpa using hb
    simp [ih, this]
theorem u8_44 {c : Int} (h0 : 0 ≤ c) (h1 : c ≤ 255) : (c.toNat.toUInt8 = 44) ↔ c = 44 := by
  have := byte_inj (c := 44) (d := c) (by omega) ⟨h0, h1⟩
  constructor
  · intro h
    have h2 : (c.toNat.toUInt8 == (44 : Int).toNat.toUInt8) = true := by rw [h]; rfl
    rw [this] at h2
    simpa using h2
  · rintro rfl; rfl
theorem get44 {s : ByteArray} {j : Nat} : s.data.toList[j]? = some 44 ↔ j < s.size ∧ at8 s j = 44 := by
  rcases Nat.lt_or_ge j s.size with h | h
  · rw [at8_byte h]
    simp only [Option.some.injEq, h, true_and]
    exact u8_44 (at8_bd s j).1 (at8_bd s j).2
  · have : s.data.toList[j]? = none := List.getElem?_eq_none (by simpa using h)
    rw [this]
    simp; omega
theorem parts_hit {s : ByteArray} {i : Nat} (hi : i < s.size) (h : at8 s i = 44) (hn : ∀ j, j < i → at8 s j ≠ 44) : partsS s = s.extract 0 i :: partsS (s.extract (i + 1) s.size) := by
  have hx : Lib.indexB s ⟨#[44]⟩ = i := by
    show Lib.index s.data.toList [44] = i
    rw [Lib.index_one]
    exact indexByte_hit _ _ _ (get44.2 ⟨hi, h⟩) (fun j hj hc => hn j hj (get44.1 hc).2)
  unfold partsS
  rw [Lib.countB_hit s ⟨#[44]⟩ i (by decide) hx, Nat.add_comm, Lib.splitB_hit _ _ _ _ i hx]
  rfl
theorem parts_miss {s : ByteArray} (hn : ∀ j, j < s.size → at8 s j ≠ 44) : partsS s = [s] := by
  have hx : Lib.indexB s ⟨#[44]⟩ = -1 := by
    show Lib.index s.data.toList [44] = -1
    rw [Lib.index_one]
    exact indexByte_miss _ _ (fun j hc => hn j (get44.1 hc).1 (get44.1 hc).2)
  unfold partsS
  exact Lib.splitB_miss _ _ _ _ hx
theorem at8_extract (s : ByteArray) (a b j : Nat) (h : a + j < b) (hb : b ≤ s.size) : at8 (s.extract a b) j = at8 s (a + j) := by
  have h1 : j < (s.extract a b).size := by rw [ByteArray.size_extract]; omega
  rw [at8_lt _ _ h1, at8_lt s (a + j) (by omega)]
  rw [ByteArray.getElem_extract h1]

end Go.Proofs.YtkkfnlehlkiejaaGreatDoor

/- The formulas of functions by the symbolic evaluator, and that each gives the call's contract. Written by a program (gen.py). No condition. -/
namespace Go.Proofs.YtkkfnlehlkiejaaGreatDoor
set_option maxRecDepth 100000
set_option linter.unusedVariables false

def VC_rclass (s : ByteArray) (at_ : Int) (w : World) (R : Ending → World → Prop) : Prop :=
 ∀ (n : Nat) (w1 : World),
 NewB w
 (Obj.cells
 #[Value.bool false, Value.bool false, Value.bool false, Value.bool false, Value.bool false, Value.bool false,
 Value.bool false, Value.bool false, Value.bool false, Value.bool false, Value.bool false, Value.bool false,
 Value.bool false, Value.bool false, Value.bool false, Value.bool false, Value.bool false, Value.bool false,
 Value.bool false, Value.bool false, Value.bool false, Value.bool false, Value.bool false, Value.bool false,
 Value.bool false, Value.bool false, Value.bool false, Value.bool false, Value.bool false, Value.bool false,
 Value.bool false, Value.bool false, Value.bool false, Value.bool false, Value.bool false, Value.bool false,
 Value.bool false, Value.bool false, Value.bool false, Value.bool false, Value.bool false, Value.bool false,
 Value.bool false, Value.bool false, Value.bool false, Value.bool false, Value.bool false, Value.bool false,
 Value.bool false, Value.bool false, Value.bool false, Value.bool false, Value.bool false, Value.bool false,
 Value.bool false, Value.bool false, Value.bool false, Value.bool false, Value.bool false, Value.bool false,
 Value.bool false, Value.bool false, Value.bool false, Value.bool false, Value.bool false, Value.bool false,
 Value.bool false, Value.bool false, Value.bool false, Value.bool false, Value.bool false, Value.bool false,
 Value.bool false, Value.bool false, Value.bool false, Value.bool false, Value.bool false, Value.bool false,
 Value.bool false, Value.bool false, Value.bool false, Value.bool false, Value.bool false, Value.bool false,
 Value.bool false, Value.bool false, Value.bool false, Value.bool false, Value.bool false, Value.bool false,
 Value.bool false, Value.bool false, Value.bool false, Value.bool false, Value.bool false, Value.bool false,
 Value.bool false, Value.bool false, Value.bool false, Value.bool false, Value.bool false, Value.bool false,
 Value.bool false, Value.bool false, Value.bool false, Value.bool false, Value.bool false, Value.bool false,
 Value.bool false, Value.bool false, Value.bool false, Value.bool false, Value.bool false, Value.bool false,
 Value.bool false, Value.bool false, Value.bool false, Value.bool false, Value.bool false, Value.bool false,
 Value.bool false, Value.bool false, Value.bool false, Value.bool false, Value.bool false, Value.bool false,
 Value.bool false, Value.bool false, Value.bool false]
 160)
 n w1 →
 ∀ (n_1 : Nat) (w1_1 : World),
 NewB w1
 (Obj.cells
 #[Value.bool false, Value.bool false, Value.bool false, Value.bool false, Value.bool false, Value.bool false,
 Value.bool false, Value.bool false, Value.bool false, Value.bool false, Value.bool false, Value.bool false,
 Value.bool false, Value.bool false, Value.bool false, Value.bool false, Value.bool false, Value.bool false,
 Value.bool false, Value.bool false, Value.bool false, Value.bool false, Value.bool false, Value.bool false,
 Value.bool false, Value.bool false, Value.bool false, Value.bool false, Value.bool false, Value.bool false,
 Value.bool false, Value.bool false, Value.bool false, Value.bool false, Value.bool false, Value.bool false,
 Value.bool false, Value.bool false, Value.bool false, Value.bool false, Value.bool false, Value.bool false,
 Value.bool false, Value.bool false, Value.bool false, Value.bool false, Value.bool false, Value.bool false,
 Value.bool false, Value.bool false, Value.bool false, Value.bool false, Value.bool false, Value.bool false,
 Value.bool false, Value.bool false, Value.bool false, Value.bool false, Value.bool false, Value.bool false,
 Value.bool false, Value.bool false, Value.bool false, Value.bool false, Value.bool false, Value.bool false,
 Value.bool false, Value.bool false, Value.bool false, Value.bool false, Value.bool false, Value.bool false,
 Value.bool false, Value.bool false, Value.bool false, Value.bool false, Value.bool false, Value.bool false,
 Value.bool false, Value.bool false, Value.bool false, Value.bool false, Value.bool false, Value.bool false,
 Value.bool false, Value.bool false, Value.bool false, Value.bool false, Value.bool false, Value.bool false,
 Value.bool false, Value.bool false, Value.bool false, Value.bool false, Value.bool false, Value.bool false,
 Value.bool false, Value.bool false, Value.bool false, Value.bool false, Value.bool false, Value.bool false,
 Value.bool false, Value.bool false, Value.bool false, Value.bool false, Value.bool false, Value.bool false,
 Value.bool false, Value.bool false, Value.bool false, Value.bool false, Value.bool false, Value.bool false,
 Value.bool false, Value.bool false, Value.bool false, Value.bool false, Value.bool false, Value.bool false,
 Value.bool false, Value.bool false, Value.bool false, Value.bool false, Value.bool false, Value.bool false,
 Value.bool false, Value.bool false, Value.bool false]
 160)
 n_1 w1_1 →
 gimp (decide (IntKind.i64.wrap (at_ + 1) < (↑s.size : Int)))
 (0 ≤ IntKind.i64.wrap (at_ + 1) ∧ IntKind.i64.wrap (at_ + 1) < (↑s.size : Int)) ∧
 ∃ (J : List Value → World → Prop),
 bsp (decide (IntKind.i64.wrap (at_ + 1) < (↑s.size : Int)) && at8 s (IntKind.i64.wrap (at_ + 1)).toNat == 94)
 (J [Value.int IntKind.i64 (IntKind.i64.wrap (IntKind.i64.wrap (at_ + 1) + 1))] w1_1)
 (J [Value.int IntKind.i64 (IntKind.i64.wrap (at_ + 1))] w1_1) ∧
 ∀ (x : Int) (w' : World),
 J [Value.int IntKind.i64 x] w' →
 ∃ (I : List Value → World → Prop),
 ∃ (m : List Value → World → Nat),
 I [Value.int IntKind.i64 x] w' ∧
 ∀ (x_1 : Int) (w' : World),
 I [Value.int IntKind.i64 x_1] w' →
 gimp (decide (x_1 < (↑s.size : Int))) (0 ≤ x_1 ∧ x_1 < (↑s.size : Int)) ∧
 bsp (decide (x_1 < (↑s.size : Int)) && at8 s x_1.toNat != 93)
 ((0 ≤ x_1 ∧ x_1 < (↑s.size : Int)) ∧
 bsp (!charB (at8 s x_1.toNat) || at8 s x_1.toNat == 45 && decide (x_1 > x))
 (∃ (x : Bool),
 ∃ (f : Nat → Bool),
 AtL w' n_1 0
 ([Value.bool x] ++ arrBo f 128 0) ∧
 WrL w' n 0 129 ∧
 ∀ (w1 : World),
 PutB w' n 0
 ([Value.bool x] ++ arrBo f 128 0)
 w1 →
 ∃ (x : Bool),
 ∃ (f : Nat → Bool),
 AtL w1 n 0
 ([Value.bool x] ++ arrBo f 128 0) ∧
 R
 (Ending.returned
 (Value.tuple
 #[Value.agg
 ([Value.bool x] ++ arrBo f 128 0).toArray,
 Value.int IntKind.i64 (-1)]))
 w1)
 (gimp (at8 s x_1.toNat != 45 && decide (IntKind.i64.wrap (x_1 + 1) < (↑s.size : Int)))
 (0 ≤ IntKind.i64.wrap (x_1 + 1) ∧ IntKind.i64.wrap (x_1 + 1) < (↑s.size : Int)) ∧
 bsp
 (at8 s x_1.toNat != 45 && decide (IntKind.i64.wrap (x_1 + 1) < (↑s.size : Int)) &&
 at8 s (IntKind.i64.wrap (x_1 + 1)).toNat == 45)
 (gimp (!(decide (IntKind.i64.wrap (x_1 + 2) ≥ (↑s.size : Int)) || alnumI (at8 s x_1.toNat) == 0))
 (0 ≤ IntKind.i64.wrap (x_1 + 2) ∧ IntKind.i64.wrap (x_1 + 2) < (↑s.size : Int)) ∧
 gimp
 (!(decide (IntKind.i64.wrap (x_1 + 2) ≥ (↑s.size : Int)) || alnumI (at8 s x_1.toNat) == 0 ||
 alnumI (at8 s (IntKind.i64.wrap (x_1 + 2)).toNat) != alnumI (at8 s x_1.toNat)))
 (0 ≤ IntKind.i64.wrap (x_1 + 2) ∧ IntKind.i64.wrap (x_1 + 2) < (↑s.size : Int)) ∧
 bsp
 (decide (IntKind.i64.wrap (x_1 + 2) ≥ (↑s.size : Int)) || alnumI (at8 s x_1.toNat) == 0 ||
 alnumI (at8 s (IntKind.i64.wrap (x_1 + 2)).toNat) != alnumI (at8 s x_1.toNat) ||
 decide (at8 s (IntKind.i64.wrap (x_1 + 2)).toNat < at8 s x_1.toNat))
 (∃ (x : Bool),
 ∃ (f : Nat → Bool),
 AtL w' n_1 0
 ([Value.bool x] ++ arrBo f 128 0) ∧
 WrL w' n 0 129 ∧
 ∀ (w1 : World),
 PutB w' n 0
 ([Value.bool x] ++ arrBo f 128 0)
 w1 →
 ∃ (x : Bool),
 ∃ (f : Nat → Bool),
 AtL w1 n 0
 ([Value.bool x] ++ arrBo f 128 0) ∧
 R
 (Ending.returned
 (Value.tuple
 #[Value.agg
 ([Value.bool x] ++ arrBo f 128 0).toArray,
 Value.int IntKind.i64 (-1)]))
 w1)
 (∃ (I_1 : List Value → World → Prop),
 ∃ (m_1 : List Value → World → Nat),
 I_1 [Value.int IntKind.i64 (IntKind.i64.wrap (at8 s x_1.toNat))] w' ∧
 ∀ (x : Int) (w'_1 : World),
 I_1 [Value.int IntKind.i64 x] w'_1 →
 (0 ≤ IntKind.i64.wrap (x_1 + 2) ∧ IntKind.i64.wrap (x_1 + 2) < (↑s.size : Int)) ∧
 bsp (decide (x ≤ IntKind.i64.wrap (at8 s (IntKind.i64.wrap (x_1 + 2)).toNat)))
 ((0 ≤ x ∧ x < (↑128 : Int)) ∧
 ((∃ (u : Value), w'_1.cell? (Addr.mk n_1 (0 + 1 + x.toNat) none) = some u) ∧
 w'_1.frozen? (Addr.mk n_1 (0 + 1 + x.toNat) none) = false) ∧
 ∀ (w1 : World),
 PutB w'_1 n_1 (0 + 1 + x.toNat) [Value.bool true] w1 →
 I_1 [Value.int IntKind.i64 (IntKind.i64.wrap (x + 1))] w1 ∧
 m_1 [Value.int IntKind.i64 (IntKind.i64.wrap (x + 1))] w1 <
 m_1 [Value.int IntKind.i64 x] w'_1)
 (I [Value.int IntKind.i64 (IntKind.i64.wrap (x_1 + 3))] w'_1 ∧
 m [Value.int IntKind.i64 (IntKind.i64.wrap (x_1 + 3))] w'_1 <
 m [Value.int IntKind.i64 x_1] w')))
 ((0 ≤ at8 s x_1.toNat ∧ at8 s x_1.toNat < (↑128 : Int)) ∧
 ((∃ (u : Value), w'.cell? (Addr.mk n_1 (0 + 1 + (at8 s x_1.toNat).toNat) none) = some u) ∧
 w'.frozen? (Addr.mk n_1 (0 + 1 + (at8 s x_1.toNat).toNat) none) = false) ∧
 ∀ (w1 : World),
 PutB w' n_1 (0 + 1 + (at8 s x_1.toNat).toNat) [Value.bool true] w1 →
 I [Value.int IntKind.i64 (IntKind.i64.wrap (x_1 + 1))] w1 ∧
 m [Value.int IntKind.i64 (IntKind.i64.wrap (x_1 + 1))] w1 < m [Value.int IntKind.i64 x_1] w')))
 (bsp (decide (x_1 ≥ (↑s.size : Int)) || x_1 == x)
 (∃ (x : Bool),
 ∃ (f : Nat → Bool),
 AtL w' n_1 0
 ([Value.bool x] ++ arrBo f 128 0) ∧
 WrL w' n 0 129 ∧
 ∀ (w1 : World),
 PutB w' n 0
 ([Value.bool x] ++ arrBo f 128 0)
 w1 →
 ∃ (x : Bool),
 ∃ (f : Nat → Bool),
 AtL w1 n 0
 ([Value.bool x] ++ arrBo f 128 0) ∧
 R
 (Ending.returned
 (Value.tuple
 #[Value.agg
 ([Value.bool x] ++ arrBo f 128 0).toArray,
 Value.int IntKind.i64 (-1)]))
 w1)
 (∃ (J : List Value → World → Prop),
 bsp
 (decide (IntKind.i64.wrap (at_ + 1) < (↑s.size : Int)) &&
 at8 s (IntKind.i64.wrap (at_ + 1)).toNat == 94)
 (∃ (I : List Value → World → Prop),
 ∃ (m : List Value → World → Nat),
 I [Value.int IntKind.i64 0] w' ∧
 ∀ (x : Int) (w' : World),
 I [Value.int IntKind.i64 x] w' →
 bsp (decide (x < 128))
 (gimp (charB (IntKind.u8.wrap x)) (0 ≤ x ∧ x < (↑128 : Int)) ∧
 ∃ (x_2 : Bool),
 gimp (charB (IntKind.u8.wrap x))
 (w'.cell? (Addr.mk n_1 (0 + 1 + x.toNat) none) = some (Value.bool x_2)) ∧
 (0 ≤ x ∧ x < (↑128 : Int)) ∧
 ((∃ (u : Value), w'.cell? (Addr.mk n_1 (0 + 1 + x.toNat) none) = some u) ∧
 w'.frozen? (Addr.mk n_1 (0 + 1 + x.toNat) none) = false) ∧
 ∀ (w1 : World),
 PutB w' n_1 (0 + 1 + x.toNat) [Value.bool (charB (IntKind.u8.wrap x) && !x_2)] w1 →
 I [Value.int IntKind.i64 (IntKind.i64.wrap (x + 1))] w1 ∧
 m [Value.int IntKind.i64 (IntKind.i64.wrap (x + 1))] w1 <
 m [Value.int IntKind.i64 x] w')
 (J [] w'))
 (J [] w') ∧
 ∀ (w' : World),
 J [] w' →
 ∃ (x : Bool),
 ∃ (f : Nat → Bool),
 AtL w' n_1 0
 ([Value.bool x] ++ arrBo f 128 0) ∧
 WrL w' n 0 129 ∧
 ∀ (w1 : World),
 PutB w' n 0
 ([Value.bool x] ++ arrBo f 128 0)
 w1 →
 ∃ (x : Bool),
 ∃ (f : Nat → Bool),
 AtL w1 n 0
 ([Value.bool x] ++ arrBo f 128 0) ∧
 R
 (Ending.returned
 (Value.tuple
 #[Value.agg
 ([Value.bool x] ++ arrBo f 128 0).toArray,
 Value.int IntKind.i64 (IntKind.i64.wrap (x_1 + 1))]))
 w1))
theorem vc_rclass (s : ByteArray) (at_ : Int) (w : World) (R : Ending → World → Prop) (h : VC_rclass s at_ w R) : Calls Tryz.prog 89 ([Value.string
    s,
  Value.int IntKind.i64 at_] : List Value).toArray w R := by
  have e : execR { P := Tryz.prog, loops := [(7, [(7, Ck.int IntKind.i64)]), (15, [(11, Ck.int IntKind.i64)]), (25, [(12, Ck.int IntKind.i64)])], pur := pur1, tails := [], joins := [(6, [(7, Ck.int IntKind.i64)]), (28, [])], boxes := [] } Tryz.f89.results.toList R (Tryz.f89.body.getD .skip) (initF [Value.string
    s,
  Value.int IntKind.i64
    at_] (Tryz.f89.ntmps - ([Value.string s,
  Value.int IntKind.i64 at_] : List Value).length)) w = VC_rclass s at_ w R := by kernel_rfl
  have hb : Tryz.f89.body = some (Tryz.f89.body.getD .skip) := by kernel_rfl
  exact calls_of_exec' (P := Tryz.prog) (fn := Tryz.f89) (c := Tryz.f89.body.getD .skip) (args := [Value.string s,
  Value.int IntKind.i64 at_]) (w := w) (R := R) pur1_ok Tryz.func89 hb e h

end Go.Proofs.YtkkfnlehlkiejaaGreatDoor
