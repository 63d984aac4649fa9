/- Rows that a slice owns: an element is written. Generic: no program, no condition. -/
import Derived.Test.YtgmmoghagpmpfaaGreatDoorZ07
import Derived.Test.YtgmmoghagpmpfaaGreatDoorZ04
import Derived.Test.YtgmmoghagpmpfaaGreatDoorZ03
import Derived.Test.YtgmmoghagpmpfaaGreatDoorZ06
import Derived.Test.YtgmmoghagpmpfaaGreatDoorProg
import Derived.Test.YtgmmoghagpmpfaaGreatDoorZ02
import Derived.Test.YtgmmoghagpmpfaaGreatDoorZ05
import Derived.KernelRfl
import Derived.Lib.BytesEntry
import Derived.Laws.StructEq
namespace Go.Proofs.YtgmmoghagpmpfaaGreatDoor
open Go.RowKit Go.Maps

theorem putL_get : ∀ (vs c : List Value) (o j : Nat), o + vs.length ≤ c.length → (putL c o vs)[j]? = if o ≤ j ∧ j < o + vs.length then vs[j - o]? else c[j]?
  | [], c, o, j, _ => by
    rw [if_neg (by simp only [List.length_nil]; omega)]; rfl
  | v :: r, c, o, j, h => by
    simp only [putL]
    rw [putL_get r (c.set o v) (o + 1) j (by simp at h ⊢; omega)]
    by_cases h1 : o + 1 ≤ j ∧ j < o + 1 + r.length
    · rw [if_pos h1, if_pos (by simp; omega), show j - o = (j - (o + 1)) + 1 by omega]; rfl
    · rw [if_neg h1, List.getElem?_set]
      by_cases h2 : o = j
      · subst h2
        have h3 : o < c.length := by rw [List.length_cons] at h; omega
        rw [if_pos rfl, if_pos h3, if_pos (by rw [List.length_cons]; omega), Nat.sub_self]
        rfl
      · rw [if_neg h2, if_neg (by rw [List.length_cons]; omega)]
end Go.Proofs.YtgmmoghagpmpfaaGreatDoor

/- Rows that a slice owns: a part of an element is written, elements are appended; rows as sources. Generic: no program, no condition. -/
namespace Go.Proofs.YtgmmoghagpmpfaaGreatDoor
open Go.RowKit Go.Maps

/-- A part of an element of an own row is written. -/
theorem own_part {α : Type} {f : α → List Value} {L : Nat} {w w1 : World} {base n c g k j : Nat} {e : TypeId} {l : List α} {y y' : α} {vs : List Value} (h : w.ownsRow base e L (.slice (some ⟨g, 0, none⟩) n c) n (l.flatMap f)) (hn : n = l.length) (hl : ∀ y, (f y).length = L) (h0 : 0 < L) (hk : l[k]? = some y) (hj : j + vs.length ≤ L) (hy : f y' = putL (f y) j vs) (hp : PutB w g (0 + k * L + j) vs w1) :
    w1.ownsRow base e L (.slice (some ⟨g, 0, none⟩) n c) n ((l.set k y').flatMap f) := by
  subst hn
  have hkl : k < l.length := (List.getElem?_eq_some_iff.1 hk).1
  have hlen := h.1
  rcases h.2 with ⟨hv, _⟩ | ⟨g', cap, cur, hv, hb, hg, h4, h5, h6, h7⟩
  · simp at hv
  simp only [Value.slice.injEq, true_and, Option.some.injEq, Addr.mk.injEq, and_true] at hv
  obtain ⟨rfl, rfl⟩ := hv
  have hm : (k + 1) * L ≤ l.length * L := Nat.mul_le_mul_right _ hkl
  have hm2 : l.length * L ≤ c * L := Nat.mul_le_mul_right _ h4
  rw [Nat.succ_mul] at hm
  have hfl : ((l.set k y').flatMap f).length = l.length * L := by rw [len_flat f L _ (fun z _ => hl z), List.length_set]
  refine ⟨hfl, .inr ⟨g, c, _, rfl, hb, hp.block hg, h4, h5, by simp [putL_len, h6], ?_⟩⟩
  show (putL cur.toList (0 + k * L + j) vs).take (l.length * L) = _
  apply List.ext_getElem?
  intro t
  rw [List.getElem?_take]
  rcases Nat.lt_or_ge t (l.length * L) with ht | ht
  · rw [if_pos ht, putL_get _ _ _ _ (by simp [h6]; omega)]
    have hdiv : t / L < l.length := Nat.div_lt_of_lt_mul (by rw [Nat.mul_comm]; exact ht)
    have hmod : t % L < L := Nat.mod_lt _ h0
    have hj2 : t / L * L + t % L = t := by rw [Nat.mul_comm]; exact Nat.div_add_mod t L
    obtain ⟨z, hz⟩ : ∃ z, l[t / L]? = some z := ⟨_, List.getElem?_eq_getElem hdiv⟩
    have h2 := flat_get f L l (t / L) z (t % L) (fun z _ => hl z) hz hmod
    rw [hj2] at h2
    have hcur : cur.toList[t]? = (f z)[t % L]? := by rw [← h2, ← h7, List.getElem?_take, if_pos ht]
    by_cases hk1 : t / L = k
    · subst hk1
      rw [hk] at hz
      cases hz
      have h1 := flat_get f L (l.set (t / L) y') (t / L) y' (t % L) (fun z _ => hl z) (by rw [List.getElem?_set]; simp [hkl]) hmod
      rw [hj2] at h1
      rw [h1, hy, putL_get _ _ _ _ (by rw [hl y]; exact hj), hcur]
      by_cases hin : j ≤ t % L ∧ t % L < j + vs.length
      · rw [if_pos hin, if_pos (by omega)]
        congr 1
        omega
      · rw [if_neg hin, if_neg (by omega)]
    · have hnin : ¬ (0 + k * L + j ≤ t ∧ t < 0 + k * L + j + vs.length) := by
        intro ⟨h3, h4⟩
        apply hk1
        have h5 : k ≤ t / L := (Nat.le_div_iff_mul_le h0).2 (by omega)
        have h6 : t / L < k + 1 := (Nat.div_lt_iff_lt_mul h0).2 (by rw [Nat.succ_mul]; omega)
        omega
      have h1 := flat_get f L (l.set k y') (t / L) z (t % L) (fun z _ => hl z) (by rw [List.getElem?_set, if_neg (fun e => hk1 e.symm)]; exact hz) hmod
      rw [hj2] at h1
      rw [if_neg hnin, h1, hcur]
  · rw [if_neg (by omega), List.getElem?_eq_none (by omega)]
/-- A place in an own row. -/
theorem own_wrc {w : World} {base n c L k j : Nat} {p : Option Addr} {e : TypeId} {xs : List Value} (h : w.ownsRow base e L (.slice p n c) n xs) (hk : k < n) (hj : j < L) : ∃ g, p = some ⟨g, 0, none⟩ ∧ (∃ u, w.cell? ⟨g, 0 + k * L + j, none⟩ = some u) ∧ w.frozen? ⟨g, 0 + k * L + j, none⟩ = false := by
  rcases h.2 with ⟨_, h0⟩ | ⟨g, cap, cur, hv, hb, hg, h4, h5, h6, h7⟩
  · omega
  simp only [Value.slice.injEq, true_and] at hv
  obtain ⟨rfl, rfl⟩ := hv
  have hm : (k + 1) * L ≤ n * L := Nat.mul_le_mul_right _ hk
  have hm2 : n * L ≤ c * L := Nat.mul_le_mul_right _ h4
  rw [Nat.succ_mul] at hm
  exact ⟨g, rfl, cell_wr hg (by omega)⟩
/-- A row lies in a block of the type t. -/
def TyN (t : TypeId) (w : World) (p : Option Addr) : Prop := ∀ g o, p = some ⟨g, o, none⟩ → ∃ c f, w.heap[g]? = some (.cells c t f)
section
variable {t : TypeId} {w w' : World} {p : Option Addr}
theorem TyN.kp {M : Nat → Prop} (h : TyN t w p) (hk : Kp M w w') (hm : ∀ k c f, w.heap[k]? = some (.cells c t f) → ¬ M k) : TyN t w' p := fun g o e => by
  obtain ⟨c, f, hc⟩ := h g o e
  exact ⟨c, f, hk.blk hc (hm g c f hc)⟩
theorem TyN.k0 (h : TyN t w p) (hk : K0 w w') : TyN t w' p := h.kp hk (fun _ _ _ _ h => h)
theorem TyN.own {base L n c : Nat} {xs : List Value} (h : w.ownsRow base t L (.slice p n c) n xs) : TyN t w p := fun g o e => by
  subst e
  obtain ⟨c, hc⟩ := own_type h (k := g) rfl
  exact ⟨c, _, hc⟩
theorem TyN.none : TyN t w none := fun _ _ h => by cases h
theorem RowA.kpT {α : Type} {f : α → List Value} {L : Nat} {l : List α} {M : Nat → Prop} (h : RowA f L w p l) (ht : TyN t w p) (hk : Kp M w w') (hm : ∀ k c f, w.heap[k]? = some (.cells c t f) → ¬ M k) : RowA f L w' p l := fun k y hy => by
  obtain ⟨b, o, h1, h2⟩ := h k y hy
  obtain ⟨c, f, hc⟩ := ht b o h1
  exact ⟨b, o, h1, ⟨At_of _ _ fun j u hu => hk.cell' (h2.cell hu) (hm b c f hc)⟩⟩
end

end Go.Proofs.YtgmmoghagpmpfaaGreatDoor

/- Chapter 27: the reference's table in the memory. No condition. -/
namespace Go.Proofs.YtgmmoghagpmpfaaGreatDoor
open Go.RowKit Go.Maps Go.Sort

/-- A group of the reference and where its numbers lie. -/
structure Rx where
  s : ByteArray
  v : Gv
  q : Option Addr
  d : Nat
def Rx.pr (x : Rx) : ByteArray × Gv := (x.s, x.v)
abbrev rxC (x : Rx) : List Value := [.string x.s, .int .i64 x.v.h, .slice x.q (exI x.v.l).length x.d, .bool x.v.c]
def inC (n : Int) : List Value := [.int .i64 n]
theorem inC_length (n : Int) : (inC n).length = 1 := rfl
/-- Numbers that lie one behind the other. -/
structure RowN (w : World) (q : Option Addr) (l : List Int) (d : Nat) : Prop where
  row : RowA inC 1 w q l
  ty : TyN 3 w q
  le : l.length ≤ d
structure RowT (w : World) (p : Option Addr) (R : List Rx) (A : TA) : Prop where
  row : RowA rxC 4 w p R
  ty : TyN 84 w p
  sub : ∀ x ∈ R, RowN w x.q (exI x.v.l) x.d
  eq : R.map Rx.pr = A
section
variable {w w' : World} {p q : Option Addr} {R : List Rx} {A : TA} {l : List Int} {d : Nat} {B b mb : Nat} {m : TM}
theorem RowN.k0 (h : RowN w q l d) (hk : K0 w w') : RowN w' q l d := ⟨h.row.k0 hk, h.ty.k0 hk, h.le⟩
theorem RowN.nil : RowN w none [] 0 := ⟨RowA.nil, TyN.none, Nat.le_refl _⟩
theorem RowN.own {base : Nat} (h : w.ownsRow base 3 1 (.slice q l.length d) l.length (l.flatMap inC)) : RowN w q l d := ⟨RowA.own h inC_length (by decide), TyN.own h, own_le h⟩
theorem RowT.k0 (h : RowT w p R A) (hk : K0 w w') : RowT w' p R A := ⟨h.row.k0 hk, h.ty.k0 hk, fun x hx => (h.sub x hx).k0 hk, h.eq⟩
theorem RowT.nil : RowT w none [] [] := ⟨RowA.nil, TyN.none, fun x hx => (by cases hx), rfl⟩
theorem RowT.len (h : RowT w p R A) : R.length = A.length := by rw [← h.eq, List.length_map]
theorem RowT.at (h : RowT w p R A) {j : Nat} {x : Rx} (hx : R[j]? = some x) : A[j]? = some (x.s, x.v) := by rw [← h.eq, List.getElem?_map, hx]; rfl
/-- The module's operations keep it. -/
theorem Tz.not_ty (h : Tz w B b mb m (fun _ => False)) {k : Nat} {c : Array Value} {t : TypeId} {f : Nat × Nat} (hc : w.heap[k]? = some (.cells c t f)) (ht : (t == 105) = false) : ¬ Tb mb m k := fun e => by
  rcases e with rfl | ⟨g, x, hx, e⟩
  · obtain ⟨es, c', hb, _⟩ := h.mm.blk
    rw [hb] at hc; cases hc
  · exact own_not (h.own g x hx (fun h => h)) hc ht e
theorem RowN.tb (h : RowN w q l d) (hz : Tz w B b mb m (fun _ => False)) (hk : Kp (Tb mb m) w w') : RowN w' q l d :=
  ⟨h.row.kpT h.ty hk (fun _ _ _ hc => hz.not_ty hc (by decide)), h.ty.kp hk (fun _ _ _ hc => hz.not_ty hc (by decide)), h.le⟩
theorem RowT.tb (h : RowT w p R A) (hz : Tz w B b mb m (fun _ => False)) (hk : Kp (Tb mb m) w w') : RowT w' p R A :=
  ⟨h.row.kpT h.ty hk (fun _ _ _ hc => hz.not_ty hc (by decide)), h.ty.kp hk (fun _ _ _ hc => hz.not_ty hc (by decide)), fun x hx => (h.sub x hx).tb hz hk, h.eq⟩
/-- Where a name stands. -/
theorem RowT.found (h : RowT w p R A) (hd : A.Pairwise fun p q => p.1 ≠ q.1) {j : Nat} {x : Rx} (hx : R[j]? = some x) : aget A x.s = some x.v := aget_at hd (List.mem_of_getElem? (h.at hx))
/-- A group is set. -/
theorem RowT.aset (h : RowT w p R A) (hd : A.Pairwise fun p q => p.1 ≠ q.1) {j : Nat} {x y : Rx} (hx : R[j]? = some x) (hs : y.s = x.s) : (R.set j y).map Rx.pr = Go.Proofs.YtgmmoghagpmpfaaGreatDoor.aset A x.s y.v := by
  rw [aset_old hd (h.at hx), List.map_set, h.eq]
  unfold Rx.pr
  rw [hs]
end
/-- Sizes. -/
theorem ivs_size {hi lo : Int} {l : List Iv} (h : IvS hi lo l) (h0 : 0 ≤ lo) (hh : lo ≤ hi + 1) : ((exI l).length : Int) ≤ hi + 1 - lo := by
  induction l generalizing lo with
  | nil => show ((0 : Nat) : Int) ≤ _; omega
  | cons x t ih =>
    obtain ⟨h1, h2, h3, h4⟩ := h
    have e : exI (x :: t) = x.l ++ exI t := rfl
    rw [e, List.length_append, Iv.l_len]
    cases t with
    | nil => show (((x.b - x.a + 1).toNat + 0 : Nat) : Int) ≤ _; omega
    | cons y r =>
      have hy := h4.1
      have hy2 := h4.2.1
      have hy3 := h4.2.2.1
      have := ih h4 (by omega) (by omega)
      omega
theorem WF.exlen {A : TA} (h : WF A) {p : ByteArray × Gv} (hp : p ∈ A) : (exI p.2.l).length ≤ 2147483646 := by
  have h1 := ivs_size (h.iv p hp) (by omega) (by have := (h.hi p hp).1; omega)
  have := (h.hi p hp).2
  omega
theorem ivs_len {hi : Int} : ∀ {lo : Int} {l : List Iv}, IvS hi lo l → l.length ≤ (exI l).length
  | _, [], _ => Nat.zero_le _
  | lo, x :: t, h => by
    obtain ⟨h1, h2, h3, h4⟩ := h
    have e : exI (x :: t) = x.l ++ exI t := rfl
    have := ivs_len h4
    rw [e, List.length_append, Iv.l_len, List.length_cons]
    omega
theorem WF.ivlen {A : TA} (h : WF A) {p : ByteArray × Gv} (hp : p ∈ A) : p.2.l.length ≤ 2147483646 := Nat.le_trans (ivs_len (h.iv p hp)) (h.exlen hp)

end Go.Proofs.YtgmmoghagpmpfaaGreatDoor

/- The formulas of functions by the symbolic evaluator, and that each gives the call's contract. Written by a program (gen.py). No condition. -/
namespace Go.Proofs.YtgmmoghagpmpfaaGreatDoor
set_option maxRecDepth 100000
set_option linter.unusedVariables false

def VC_nanS (a : ByteArray) (w : World) (R : Ending → World → Prop) : Prop :=
 R (Ending.returned (Value.bool !a.toList == a.toList)) w
theorem vc_nanS (a : ByteArray) (w : World) (R : Ending → World → Prop) (h : VC_nanS a w R) : Calls Tryz.prog 128 ([Value.string
    a] : List Value).toArray w R := by
  have e : execR { P := Tryz.prog, loops := [], pur := pur1, tails := [], joins := [], boxes := [] } Tryz.f128.results.toList R (Tryz.f128.body.getD .skip) (initF [Value.string
    a] (Tryz.f128.ntmps - ([Value.string a] : List Value).length)) w = VC_nanS a w R := by kernel_rfl
  have hb : Tryz.f128.body = some (Tryz.f128.body.getD .skip) := by kernel_rfl
  exact calls_of_exec' (P := Tryz.prog) (fn := Tryz.f128) (c := Tryz.f128.body.getD .skip) (args := [Value.string
    a]) (w := w) (R := R) pur1_ok Tryz.func128 hb e h

def VC_cmpS (a : ByteArray) (b : ByteArray) (w : World) (R : Ending → World → Prop) : Prop :=
 CallsS Tryz.prog 128 #[Value.string a] w fun (e : Ending) (w' : World) =>
 ∃ (x : Bool),
 e = Ending.returned (Value.bool x) ∧
 CallsS Tryz.prog 128 #[Value.string b] w' fun (e : Ending) (w' : World) =>
 ∃ (x_1 : Bool),
 e = Ending.returned (Value.bool x_1) ∧
 bsp x
 (bsp x_1 (R (Ending.returned (Value.int IntKind.i64 0)) w')
 (R (Ending.returned (Value.int IntKind.i64 (-1))) w'))
 (bsp x_1 (R (Ending.returned (Value.int IntKind.i64 1)) w')
 (bsp (Op.bytesLess a.toList b.toList) (R (Ending.returned (Value.int IntKind.i64 (-1))) w')
 (bsp (!(Op.bytesLess a.toList b.toList || a.toList == b.toList))
 (R (Ending.returned (Value.int IntKind.i64 1)) w') (R (Ending.returned (Value.int IntKind.i64 0)) w'))))
theorem vc_cmpS (a : ByteArray) (b : ByteArray) (w : World) (R : Ending → World → Prop) (h : VC_cmpS a b w R) : Calls Tryz.prog 108 ([Value.string
    a,
  Value.string b] : List Value).toArray w R := by
  have e : execR { P := Tryz.prog, loops := [], pur := pur1, tails := [], joins := [], boxes := [] } Tryz.f108.results.toList R (Tryz.f108.body.getD .skip) (initF [Value.string
    a,
  Value.string
    b] (Tryz.f108.ntmps - ([Value.string a, Value.string b] : List Value).length)) w = VC_cmpS a b w R := by kernel_rfl
  have hb : Tryz.f108.body = some (Tryz.f108.body.getD .skip) := by kernel_rfl
  exact calls_of_exec' (P := Tryz.prog) (fn := Tryz.f108) (c := Tryz.f108.body.getD .skip) (args := [Value.string a,
  Value.string b]) (w := w) (R := R) pur1_ok Tryz.func108 hb e h

end Go.Proofs.YtgmmoghagpmpfaaGreatDoor

/- Chapter 27: names compared, in the module and in the reference. Names are not too long; the library's variable MaxLen holds a number. -/
namespace Go.Proofs.YtgmmoghagpmpfaaGreatDoor
open Go.RowKit Go.Sort

theorem str_eq {a b : ByteArray} (h : a.toList = b.toList) : a = b := by
  rw [ByteArray.toList_eq, ByteArray.toList_eq] at h
  exact ByteArray.ext (Array.toList_inj.1 h)
theorem str_beq (a b : ByteArray) : (a.toList == b.toList) = decide (a = b) := by
  rw [Bool.eq_iff_iff]
  simp only [beq_iff_eq, decide_eq_true_eq]
  exact ⟨str_eq, fun h => by rw [h]⟩
theorem bl_cb : ∀ a b : List UInt8, Op.bytesLess a b = decide (Lib.compareBytes a b < 0)
  | [], [] => rfl
  | [], _ :: _ => rfl
  | _ :: _, [] => rfl
  | a :: l, b :: m => by
    unfold Op.bytesLess Lib.compareBytes
    by_cases h1 : a < b
    · simp [h1]
    · by_cases h2 : b < a
      · have h3 : a ≠ b := fun e => by subst e; exact h1 h2
        simp [h1, h2, h3]
      · have h3 : a = b := UInt8.le_antisymm (UInt8.not_lt.1 h2) (UInt8.not_lt.1 h1)
        subst h3
        simp [bl_cb l m]
theorem nanS_any (a : ByteArray) (w : World) : Calls Tryz.prog 128 #[.string a] w fun e w' => e = .returned (.bool false) ∧ w' = w := vc_nanS a w _ ⟨by simp, rfl⟩
theorem cmpS_any (a b : ByteArray) (w : World) : Calls Tryz.prog 108 #[.string a, .string b] w fun e w' => e = .returned (.int .i64 (Lib.compareBytes a.data.toList b.data.toList)) ∧ w' = w := by
  refine vc_cmpS a b w _ ⟨(nanS_any a w).mono fun e w1 ⟨he, hw⟩ => ⟨_, he, ?_⟩⟩
  subst hw
  refine ⟨(nanS_any b w1).mono fun e w2 ⟨he, hw⟩ => ⟨_, he, ?_⟩⟩
  subst hw
  have e1 : a.toList = a.data.toList := ByteArray.toList_eq a
  have e2 : b.toList = b.data.toList := ByteArray.toList_eq b
  rw [e1, e2, bl_cb]
  have ha := cb_anti a.data.toList b.data.toList
  have hcases : Lib.compareBytes a.data.toList b.data.toList = -1 ∨ Lib.compareBytes a.data.toList b.data.toList = 0 ∨ Lib.compareBytes a.data.toList b.data.toList = 1 := by
    have key : ∀ l m : List UInt8, Lib.compareBytes l m = -1 ∨ Lib.compareBytes l m = 0 ∨ Lib.compareBytes l m = 1 := by
      intro l
      induction l with
      | nil => intro m; cases m <;> simp [Lib.compareBytes]
      | cons x l ih =>
        intro m
        cases m with
        | nil => simp [Lib.compareBytes]
        | cons y m =>
          unfold Lib.compareBytes
          split
          · exact .inl rfl
          split
          · exact .inr (.inr rfl)
          · exact ih m
    exact key _ _
  refine bsp_intro (fun h => by cases h) (fun _ => bsp_intro (fun h => by cases h) (fun _ => bsp_intro (fun h => ?_) (fun h => bsp_intro (fun h2 => ?_) (fun h2 => ?_))))
  · have h := of_decide_eq_true h
    exact ⟨by congr 2; omega, rfl⟩
  · have h := of_decide_eq_false h
    simp only [Bool.not_eq_true', Bool.or_eq_false_iff, beq_eq_false_iff_ne] at h2
    have : Lib.compareBytes a.data.toList b.data.toList ≠ 0 := fun e => h2.2 (cb_zero _ _ e)
    exact ⟨by congr 2; omega, rfl⟩
  · have h := of_decide_eq_false h
    rw [decide_eq_false h] at h2
    have h3 : a.data.toList = b.data.toList := by simpa using h2
    exact ⟨by congr 2; rw [h3, cb_self], rfl⟩

theorem gparts1_any (s : ByteArray) (w : World) (hs : s.size ≤ 1073741824) (hG : GW w) : Calls Tryz.prog 82 #[.string s] w fun e w' => (∃ (p : Option Addr) (c : Nat), e = .returned (.slice p (partsD s).length c) ∧ StrP w' p (partsD s)) ∧ K0 w w' ∧ w.drawn ≤ w'.drawn := by
  refine vc_gparts1 s w _ ?_
  obtain ⟨mm, hG1⟩ := hG
  refine ⟨(Tryz.strings_Split s ⟨#[46]⟩ mm w (by omega) hG1 (by decide)).mono fun e w2 ⟨he, hw2⟩ => ?_⟩
  have hlen : (partsD s).length = Lib.countB s ⟨#[46]⟩ + 1 := Lib.splitB_all ⟨#[46]⟩ (by decide) 0 _ s rfl
  have hn2 : NewB w (.cells ((partsD s).map .string).toArray 9) w.heap.size w2 := ⟨rfl, hw2⟩
  rw [← hlen] at he
  have k2 : K0 w w2 := hn2.kp _
  refine ⟨_, _, _, he, ⟨_, _, rfl, fun k z hk => ⟨_, 0, rfl, ?_⟩⟩, k2, by rw [hw2]; exact Nat.le_refl _⟩
  rw [Nat.zero_add]
  exact cell_at hn2.block (by simp [hk])
theorem lsC_step {a b : List ByteArray} {k : Nat} {x y : ByteArray} (hx : a[k]? = some x) (hy : b[k]? = some y) : lsC (a.drop k) (b.drop k) = if Lib.compareBytes x.data.toList y.data.toList ≠ 0 then Lib.compareBytes x.data.toList y.data.toList else lsC (a.drop (k + 1)) (b.drop (k + 1)) := by
  have h1 := (List.getElem?_eq_some_iff.1 hx).1
  have h2 := (List.getElem?_eq_some_iff.1 hy).1
  have e1 : a.drop k = x :: a.drop (k + 1) := by
    rw [List.drop_eq_getElem_cons h1]
    rw [List.getElem?_eq_getElem h1] at hx
    cases hx; rfl
  have e2 : b.drop k = y :: b.drop (k + 1) := by
    rw [List.drop_eq_getElem_cons h2]
    rw [List.getElem?_eq_getElem h2] at hy
    cases hy; rfl
  rw [e1, e2]; rfl
theorem slcmp1_any (a b : List ByteArray) (p q : Option Addr) (c d : Nat) (w : World) (ha : StrP w p a) (hb : StrP w q b) (hla : a.length ≤ 4611686018427387904) (hlb : b.length ≤ 4611686018427387904) :
    Calls Tryz.prog 81 #[.slice p a.length c, .slice q b.length d] w fun e w' => e = .returned (.int .i64 (lsC a b)) ∧ w' = w := by
  refine vc_slcmp1 p a.length c q b.length d w _ ?_
  refine count1 a.length (by omega) (fun k w' => w' = w ∧ k ≤ b.length ∧ lsC a b = lsC (a.drop k) (b.drop k)) ⟨rfl, by omega, rfl⟩ ?_
  rintro I m k w' hk ⟨rfl, hkb, hI⟩ next
  refine bsp_intro (fun hlt => ?_) (fun hge => ?_)
  · have hlt : k < a.length := by simp at hlt; omega
    obtain ⟨x, b1, o1, hx, hp, hc1⟩ := ha.get hlt
    rw [Int.toNat_natCast]
    refine nn_is hp ⟨⟨by omega, by omega⟩, x, hc1, bsp_intro (fun h => ?_) (fun h => ?_)⟩
    · have h : b.length ≤ k := by simp at h; omega
      have e1 : b.drop k = [] := List.drop_eq_nil_of_le h
      have e2 : a.drop k = x :: a.drop (k + 1) := by
        rw [List.drop_eq_getElem_cons hlt]
        rw [List.getElem?_eq_getElem hlt] at hx
        cases hx; rfl
      rw [hI, e1, e2]
      exact ⟨rfl, rfl⟩
    · have h : k < b.length := by simp at h; omega
      obtain ⟨y, b2, o2, hy, hq, hc2⟩ := hb.get h
      refine nn_is hq ⟨⟨by omega, by omega⟩, y, hc2, ⟨(cmpS_any x y w').mono fun e w2 ⟨he, hw⟩ => ⟨_, he, ?_⟩⟩⟩
      subst hw
      rw [lsC_step hx hy] at hI
      refine bsp_intro (fun h3 => ?_) (fun h3 => ?_)
      · have h3 : Lib.compareBytes x.data.toList y.data.toList ≠ 0 := by simpa using h3
        rw [if_pos h3] at hI
        rw [hI]
        exact ⟨rfl, rfl⟩
      · have h3 : Lib.compareBytes x.data.toList y.data.toList = 0 := by simpa using h3
        rw [if_neg (by omega)] at hI
        exact next hlt _ ⟨rfl, h, hI⟩
  · have : k = a.length := by simp at hge; omega
    subst this
    rw [List.drop_length] at hI
    refine bsp_intro (fun h => ?_) (fun h => ?_)
    · have h : a.length < b.length := by simpa using h
      rw [List.drop_eq_getElem_cons h] at hI
      rw [hI]
      exact ⟨rfl, rfl⟩
    · have h : a.length = b.length := by simp at h; omega
      rw [h, List.drop_length] at hI
      rw [hI]
      exact ⟨rfl, rfl⟩
theorem gncmp1_any (s t : ByteArray) (w : World) (hs : s.size ≤ 1073741824) (ht : t.size ≤ 1073741824) (hG : GW w) : Calls Tryz.prog 52 #[.string s, .string t] w fun e w' => e = .returned (.int .i64 (gnC s t)) ∧ K0 w w' ∧ w.drawn ≤ w'.drawn := by
  refine vc_gncmp1 s t w _ ⟨(gparts1_any s w hs hG).mono fun e w1 ⟨⟨p, c, he, hP⟩, k1, d1⟩ => ⟨_, _, _, he, ⟨(gparts1_any t w1 ht (hG.kp k1 (fun h => h))).mono fun e w2 ⟨⟨q, d, he, hQ⟩, k2, d2⟩ => ⟨_, _, _, he, ?_⟩⟩⟩⟩
  have l1 := partsD_le s.size s (Nat.le_refl _)
  have l2 := partsD_le t.size t (Nat.le_refl _)
  exact ⟨(slcmp1_any (partsD s) (partsD t) p q c d w2 (hP.k0 k2) hQ (by omega) (by omega)).mono fun e w3 ⟨he, hw⟩ => ⟨_, he, rfl, by rw [hw]; exact k1.trans k2, by rw [hw]; omega⟩⟩
theorem cb_val39 : ∀ a b : List UInt8, Lib.compareBytes a b = -1 ∨ Lib.compareBytes a b = 0 ∨ Lib.compareBytes a b = 1
  | [], [] => .inr (.inl rfl)
  | [], _ :: _ => .inl rfl
  | _ :: _, [] => .inr (.inr rfl)
  | a :: l, b :: m => by
    unfold Lib.compareBytes
    split
    · exact .inl rfl
    · split
      · exact .inr (.inr rfl)
      · exact cb_val39 l m
theorem lsC_drop {A B : List ByteArray} {i : Nat} {x y : ByteArray} (hx : A[i]? = some x) (hy : B[i]? = some y) : lsC (A.drop i) (B.drop i) = if Lib.compareBytes x.data.toList y.data.toList ≠ 0 then Lib.compareBytes x.data.toList y.data.toList else lsC (A.drop (i + 1)) (B.drop (i + 1)) := by
  obtain ⟨h1, e1⟩ := List.getElem?_eq_some_iff.1 hx
  obtain ⟨h2, e2⟩ := List.getElem?_eq_some_iff.1 hy
  rw [List.drop_eq_getElem_cons h1, List.drop_eq_getElem_cons h2, e1, e2]
  rfl
theorem bl_cb39 (a b : ByteArray) : Op.bytesLess a.toList b.toList = decide (Lib.compareBytes a.data.toList b.data.toList < 0) := by rw [ByteArray.toList_eq, ByteArray.toList_eq, bl_cb]
set_option maxHeartbeats 1000000 in
theorem xr12_any (s t : ByteArray) (hs : s.size ≤ 1000000) (ht : t.size ≤ 1000000) (w : World) : Calls Tryz.prog 73 #[.string s, .string t] w fun e w' => e = .returned (.int .i64 (gnC s t)) ∧ K0 w w' := by
  refine vc_xr12 s t w _ ⟨(xparts_any s w hs).mono fun e w1 ⟨⟨p, c, he, h1⟩, k1⟩ => ⟨_, _, _, he, .of_k0 k1, ⟨(xparts_any t w1 ht).mono fun e w2 ⟨⟨p2, c2, he2, h2⟩, k2⟩ => ⟨_, _, _, he2, .of_k0 k2, ?_⟩⟩⟩⟩
  have hl1 := partsD_le s.size s (Nat.le_refl _)
  have hl2 := partsD_le t.size t (Nat.le_refl _)
  have h1 := h1.k0 k2
  have k02 := k1.trans k2
  unfold gnC
  generalize partsD s = A at h1 hl1 ⊢
  generalize partsD t = B at h2 hl2 ⊢
  refine ⟨fun vs w' => ∃ i : Nat, vs = [.int .i64 (i : Int)] ∧ i ≤ A.length ∧ i ≤ B.length ∧ lsC A B = lsC (A.drop i) (B.drop i) ∧ K0 w2 w', fun vs _ => (match vs with | .int _ a :: _ => A.length - a.toNat | _ => 0), ⟨0, rfl, by omega, by omega, rfl, .refl _ _⟩, ?_⟩
  rintro x w3 ⟨i, hv, hiA, hiB, hls, k3⟩
  simp only [List.cons.injEq, Value.int.injEq, true_and, and_true] at hv
  subst hv
  have k03 := k02.trans k3
  refine bsp_intro (fun hlt => ?_) (fun hge => ?_)
  · have hlt : i < A.length ∧ i < B.length := by simp at hlt; omega
    obtain ⟨x, b, o, hx, hp, hc⟩ := h1.get hlt.1
    obtain ⟨y, b2, o2, hy, hp2, hc2⟩ := h2.get hlt.2
    rw [lsC_drop hx hy] at hls
    rw [Int.toNat_natCast]
    refine nn_is hp ⟨⟨by omega, by omega⟩, x, fun W hW => ((k3.trans (hW.kk rfl)).cell' hc (fun h => h)), nn_is hp2 ⟨⟨by omega, by omega⟩, y, fun W hW => ((k3.trans (hW.kk rfl)).cell' hc2 (fun h => h)), bsp_intro (fun h W hW => ?_) (fun h => ?_)⟩⟩
    · rw [bl_cb39] at h
      have h : Lib.compareBytes x.data.toList y.data.toList < 0 := by simpa using h
      have h3 := cb_val39 x.data.toList y.data.toList
      rw [if_pos (by omega)] at hls
      have e : lsC A B = -1 := by omega
      exact ⟨by rw [e], hW.k0 k03⟩
    · rw [bl_cb39] at h
      have h : ¬ Lib.compareBytes x.data.toList y.data.toList < 0 := by simpa using h
      refine nn_is hp ⟨⟨by omega, by omega⟩, x, fun W hW => ((k3.trans (hW.kk rfl)).cell' hc (fun h => h)), nn_is hp2 ⟨⟨by omega, by omega⟩, y, fun W hW => ((k3.trans (hW.kk rfl)).cell' hc2 (fun h => h)), bsp_intro (fun h2 W hW => ?_) (fun h2 W hW => ?_)⟩⟩
      · rw [bl_cb39, str_beq] at h2
        have h2 : ¬ x = y := by simp at h2; exact h2.2
        have h3 := cb_val39 x.data.toList y.data.toList
        have h4 : Lib.compareBytes x.data.toList y.data.toList ≠ 0 := fun e => h2 (ba_eq (cb_zero _ _ e))
        rw [if_pos h4] at hls
        have e : lsC A B = 1 := by omega
        exact ⟨by rw [e], hW.k0 k03⟩
      · rw [bl_cb39, str_beq] at h2
        have h2 : x = y := by simp at h2; exact h2 (by omega)
        subst h2
        rw [if_neg (by rw [cb_self]; simp)] at hls
        rw [inc64 (by omega)]
        exact ⟨⟨i + 1, rfl, hlt.1, hlt.2, hls, k3.trans (hW.kk rfl)⟩, by simp only [Int.toNat_natCast]; omega⟩
  · have hge : i = A.length ∨ i = B.length := by simp at hge; omega
    refine bsp_intro (fun h => ?_) (fun h => bsp_intro (fun h' => ?_) (fun h' => ?_))
    · have h : A.length < B.length := by simpa using h
      have hi : i = A.length := by omega
      subst hi
      rw [List.drop_length, List.drop_eq_getElem_cons h] at hls
      have e : lsC A B = -1 := hls
      exact ⟨by rw [e], k03⟩
    · have h' : B.length < A.length := by simpa using h'
      have hi : i = B.length := by omega
      subst hi
      rw [List.drop_length, List.drop_eq_getElem_cons h'] at hls
      have e : lsC A B = 1 := hls
      exact ⟨by rw [e], k03⟩
    · have h : ¬ A.length < B.length := by simpa using h
      have h' : ¬ B.length < A.length := by simpa using h'
      rw [show A.drop i = [] from List.drop_eq_nil_of_le (by omega), show B.drop i = [] from List.drop_eq_nil_of_le (by omega)] at hls
      have e : lsC A B = 0 := hls
      exact ⟨by rw [e], k03⟩

end Go.Proofs.YtgmmoghagpmpfaaGreatDoor

/- Chapter 27, plain: what an operation does to a table; marks never decrease; operations on two names. No program in sight. -/
namespace Go.Proofs.YtgmmoghagpmpfaaGreatDoor
open Go.RowKit

/-- Assign: the table, the numbers, the error. -/
def asR (A : TA) (l : List ByteArray) : TA × List Int × Int := if l.length = 0 then (A, [], 1) else if ¬ l.Nodup then (A, [], 7) else if asE A l ≠ 0 then (A, [], asE A l) else (asS A l, asN A l, 0)
def fstL (l : List ByteArray) : ByteArray := l.headD ⟨#[]⟩
/-- What an operation does to a table. -/
def opX (A : TA) (k : Int) (l : List ByteArray) (n : Int) : TA :=
  if k % 8 = 0 then (opA A (fstL l)).1 else if k % 8 = 1 then (clA A (fstL l)).1 else if k % 8 = 6 ∨ k % 8 = 7 then (rmA A (fstL l) n).1 else (asR A l).1
theorem wf_asR {A : TA} (h : WF A) (l : List ByteArray) : WF (asR A l).1 := by
  unfold asR
  split
  · exact h
  split
  · exact h
  rename_i h1
  split
  · exact h
  rename_i h2
  exact wf_asS h (Classical.byContradiction h1) (Classical.byContradiction h2)
theorem wf_opX {A : TA} (h : WF A) (k : Int) (l : List ByteArray) (n : Int) : WF (opX A k l n) := by
  unfold opX
  split
  · exact wf_opA h _
  split
  · exact wf_clA h _
  split
  · exact wf_rmA h _ _
  · exact wf_asR h _
theorem aset_keep {β : Type} {l : List (ByteArray × β)} {a : ByteArray} {u v : β} (h : aget l a = some u) : (aset l a v).length = l.length := by
  induction l with
  | nil => cases h
  | cons p r ih =>
    obtain ⟨b, x⟩ := p
    unfold aget at h
    unfold aset
    split
    · rfl
    · rename_i hne
      rw [if_neg hne] at h
      simp [ih h]
theorem asS_len : ∀ (l : List ByteArray) (A : TA), (asS A l).length = A.length
  | [], _ => rfl
  | s :: r, A => by
    unfold asS
    cases hg : aget A s with
    | none => rfl
    | some v => simp only; rw [asS_len r, aset_keep hg]
theorem opA_len (A : TA) (s : ByteArray) : A.length ≤ (opA A s).1.length ∧ (opA A s).1.length ≤ A.length + 1 ∧ (A.length ≤ 4096 → (opA A s).1.length ≤ 4096) := by
  unfold opA
  split
  · exact ⟨Nat.le_refl _, by simp, fun h => h⟩
  split
  · rename_i v hg
    split
    · exact ⟨Nat.le_refl _, by simp, fun h => h⟩
    · show A.length ≤ (aset A s _).length ∧ (aset A s _).length ≤ _ ∧ (_ → (aset A s _).length ≤ _)
      rw [aset_keep hg]; exact ⟨Nat.le_refl _, by simp, fun h => h⟩
  · split
    · exact ⟨Nat.le_refl _, by simp, fun h => h⟩
    · rename_i hl
      show A.length ≤ (insA gnC A s _).length ∧ (insA gnC A s _).length ≤ _ ∧ (_ → (insA gnC A s _).length ≤ _)
      rw [(insA_perm A s _).length_eq, List.length_append]
      simp only [List.length_cons, List.length_nil]
      omega
theorem clA_len (A : TA) (s : ByteArray) : (clA A s).1.length = A.length := by
  unfold clA
  split
  · rename_i v hg
    split
    · rfl
    · exact aset_keep hg
  · rfl
theorem rmA_len (A : TA) (s : ByteArray) (n : Int) : (rmA A s n).1.length = A.length := by
  unfold rmA
  split
  · rename_i v hg
    split
    · exact aset_keep hg
    · rfl
  · rfl
theorem asR_len (A : TA) (l : List ByteArray) : (asR A l).1.length = A.length := by
  unfold asR
  split
  · rfl
  split
  · rfl
  split
  · rfl
  · exact asS_len l A
theorem opX_len (A : TA) (k : Int) (l : List ByteArray) (n : Int) : (opX A k l n).length ≤ A.length + 1 := by
  unfold opX
  split
  · exact (opA_len A _).2.1
  split
  · rw [clA_len]; omega
  split
  · rw [rmA_len]; omega
  · rw [asR_len]; omega

/-! ### Marks -/
/-- High and Low do not go back. -/
def Mk (u v : Gv) : Prop := u.h ≤ v.h ∧ lowI u ≤ lowI v
theorem Mk.refl (v : Gv) : Mk v v := ⟨Int.le_refl _, Int.le_refl _⟩
theorem asR_get {A : TA} (l : List ByteArray) (s : ByteArray) : aget (asR A l).1 s = aget A s ∨ ∃ v, aget A s = some v ∧ v.h < 2147483646 ∧ s ∈ l ∧ l.Nodup ∧ asE A l = 0 ∧ aget (asR A l).1 s = some (nxG v) := by
  unfold asR
  split
  · exact .inl rfl
  split
  · exact .inl rfl
  rename_i h1
  split
  · exact .inl rfl
  rename_i h2
  have h1 : l.Nodup := Classical.byContradiction h1
  have h2 : asE A l = 0 := Classical.byContradiction h2
  by_cases hs : s ∈ l
  · obtain ⟨i, hi⟩ := List.getElem?_of_mem hs
    obtain ⟨v, g1, g2, g3, g4, _⟩ := asS_at h1 h2 hi
    exact .inr ⟨v, g1, g3, hs, h1, h2, g4⟩
  · exact .inl (asS_get hs)
/-! ### Operations on one name -/
theorem nodup_len {α : Type} [DecidableEq α] : ∀ (l m : List α), l.Nodup → (∀ x ∈ l, x ∈ m) → l.length ≤ m.length
  | [], _, _, _ => Nat.zero_le _
  | x :: l, m, hn, hs => by
    obtain ⟨h1, h2⟩ := List.nodup_cons.1 hn
    have hx := hs x List.mem_cons_self
    have := nodup_len l (m.erase x) h2 (fun y hy => (List.mem_erase_of_ne (fun e => h1 (by rw [← e]; exact hy))).2 (hs y (List.mem_cons_of_mem _ hy)))
    rw [List.length_erase_of_mem hx] at this
    have := List.length_pos_of_mem hx
    rw [List.length_cons]
    omega
theorem WF.keys {A : TA} (h : WF A) : (A.map (·.1)).Nodup := by
  rw [List.Nodup, List.pairwise_map]
  exact h.dis
/-- Two tables of which one says what the other says are the same. -/
theorem sub_eq {A B : TA} (hA : WF A) (hB : WF B) (hl : A.length = B.length) (h : ∀ p ∈ A, aget B p.1 = some p.2) : A = B := by
  refine ksort_ext hA.sort hB.sort (fun s => ?_)
  cases hg : aget A s with
  | some v => exact (h (s, v) (aget_mem hg)).symm
  | none =>
    cases hb : aget B s with
    | none => rfl
    | some v =>
      exfalso
      have hn : s ∉ A.map (·.1) := fun hm => by
        obtain ⟨p, hp, e⟩ := List.mem_map.1 hm
        exact aget_none.1 hg p hp e
      have := nodup_len (s :: A.map (·.1)) (B.map (·.1)) (List.nodup_cons.2 ⟨hn, hA.keys⟩) (fun x hx => by
        rcases List.mem_cons.1 hx with rfl | hx
        · exact List.mem_map.2 ⟨(x, v), aget_mem hb, rfl⟩
        · obtain ⟨p, hp, rfl⟩ := List.mem_map.1 hx
          exact List.mem_map.2 ⟨(p.1, p.2), aget_mem (h p hp), rfl⟩)
      simp at this
      omega
end Go.Proofs.YtgmmoghagpmpfaaGreatDoor

/- The formulas of functions by the symbolic evaluator, and that each gives the call's contract. Written by a program (gen.py). No condition. -/
namespace Go.Proofs.YtgmmoghagpmpfaaGreatDoor
set_option maxRecDepth 100000
set_option linter.unusedVariables false

end Go.Proofs.YtgmmoghagpmpfaaGreatDoor

/- Chapter 27: the reference's Find, Low, set, Open, Close, Numbers, Has, Neighbour. Printed by mkxa27.py. Names are not too long, lists of numbers either. -/
namespace Go.Proofs.YtgmmoghagpmpfaaGreatDoor
open Go.RowKit Go.Sort Go.Maps

/-- The reference's table in the memory, with the room of its row. -/
def RowU (w : World) (p : Option Addr) (c : Nat) (A : TA) : Prop := ∃ R, RowT w p R A ∧ A.length ≤ c
theorem RowU.k0 {w w' : World} {p : Option Addr} {c : Nat} {A : TA} (h : RowU w p c A) (hk : K0 w w') : RowU w' p c A := by obtain ⟨R, h1, h2⟩ := h; exact ⟨R, h1.k0 hk, h2⟩
theorem RowU.tb {w w' : World} {p : Option Addr} {c : Nat} {A : TA} {B b mb : Nat} {m : TM} (h : RowU w p c A) (hz : Tz w B b mb m (fun _ => False)) (hk : Kp (Tb mb m) w w') : RowU w' p c A := by obtain ⟨R, h1, h2⟩ := h; exact ⟨R, h1.tb hz hk, h2⟩
/-- Highest numbers are not great. -/
def Sm (k : Nat) (A : TA) : Prop := ∀ p ∈ A, p.2.h ≤ (k : Int)
theorem Sm.len {k : Nat} {A : TA} (h : Sm k A) (hA : WF A) {p : ByteArray × Gv} (hp : p ∈ A) : (exI p.2.l).length ≤ k := by
  have h1 := ivs_size (hA.iv p hp) (by omega) (by have := (hA.hi p hp).1; omega)
  have := h p hp
  omega
section
variable {w : World} {p : Option Addr} {R : List Rx} {A : TA}
end

end Go.Proofs.YtgmmoghagpmpfaaGreatDoor

/- Chapter 27: the reference's Remove and Assign. Names are not too long, lists of numbers either. -/
namespace Go.Proofs.YtgmmoghagpmpfaaGreatDoor
open Go.RowKit Go.Sort Go.Maps

section
variable {w : World} {p : Option Addr} {R : List Rx} {A : TA}
end

end Go.Proofs.YtgmmoghagpmpfaaGreatDoor

/- Chapter 27: intervals, places, groups compared by ==. No condition. -/
namespace Go.Proofs.YtgmmoghagpmpfaaGreatDoor
open Go.RowKit

theorem eqf_cons {P : Program} {w : World} {d : Nat} {xs ys : Array Value} {f : Field} {fs : List Field} (hn : f.name ≠ "_") {a b : Value} (hx : (part f.type xs f.offset).run P w = .ok a w) (hy : (part f.type ys f.offset).run P w = .ok b w) {r s : Bool} (hr : (Op.equalIn d f.type a b).run P w = .ok r w) (hs : (Op.eqFields d xs ys fs).run P w = .ok s w) : (Op.eqFields d xs ys (f :: fs)).run P w = .ok (r && s) w := by
  simp only [Op.eqFields, if_pos hn, Sem.run_bind, hx, hy, hr, Result.andThen_ok]
  cases r with
  | true => simpa using hs
  | false => simp
theorem fieldsOf_of {P : Program} {t : TypeId} {fs : Array Field} (h : P.underlying t = some (.struct fs)) : P.fieldsOf t = fs := by unfold Program.fieldsOf; rw [h]
theorem ivEq (x y : Iv) : EqP Tryz.prog 105 (.agg #[.int .i64 x.a, .int .i64 x.b]) (.agg #[.int .i64 y.a, .int .i64 y.b]) (x.a == y.a && (x.b == y.b && true)) := by
  refine ⟨fun w => ?_, by kernel_rfl, _, _, rfl, rfl⟩
  show (Op.equalIn 10000 _ _ _).run _ w = _
  rw [run_equalIn_struct w 9999 105 _ _ (by kernel_rfl) (by kernel_rfl), fieldsOf_of Tryz.underlying105]
  exact eqf_cons (by decide) (by kernel_rfl) (by kernel_rfl) (run_equalIn_int w _ _ .i64 _ _ _ Tryz.underlying3) (eqf_cons (by decide) (by kernel_rfl) (by kernel_rfl) (run_equalIn_int w _ _ .i64 _ _ _ Tryz.underlying3) rfl)
theorem plEq27 (s t : ByteArray) (x y : Int) : EqP Tryz.prog 64 (.agg #[.string s, .int .i64 x]) (.agg #[.string t, .int .i64 y]) (s.toList == t.toList && (x == y && true)) := by
  refine ⟨fun w => ?_, by kernel_rfl, _, _, rfl, rfl⟩
  show (Op.equalIn 10000 _ _ _).run _ w = _
  rw [run_equalIn_struct w 9999 64 _ _ (by kernel_rfl) (by kernel_rfl), fieldsOf_of Tryz.underlying64]
  exact eqf_cons (by decide) (by kernel_rfl) (by kernel_rfl) (run_equalIn_string w _ _ _ _ Tryz.underlying9) (eqf_cons (by decide) (by kernel_rfl) (by kernel_rfl) (run_equalIn_int w _ _ .i64 _ _ _ Tryz.underlying3) rfl)
theorem grEq27 (s t : ByteArray) (a b c x y z : Int) (d e : Bool) : EqP Tryz.prog 31 (.agg #[.string s, .int .i64 a, .int .i64 b, .int .i64 c, .bool d]) (.agg #[.string t, .int .i64 x, .int .i64 y, .int .i64 z, .bool e]) (s.toList == t.toList && (a == x && (b == y && (c == z && (d == e && true))))) := by
  refine ⟨fun w => ?_, by kernel_rfl, _, _, rfl, rfl⟩
  show (Op.equalIn 10000 _ _ _).run _ w = _
  rw [run_equalIn_struct w 9999 31 _ _ (by kernel_rfl) (by kernel_rfl), fieldsOf_of Tryz.underlying31]
  exact eqf_cons (by decide) (by kernel_rfl) (by kernel_rfl) (run_equalIn_string w _ _ _ _ Tryz.underlying9) (eqf_cons (by decide) (by kernel_rfl) (by kernel_rfl) (run_equalIn_int w _ _ .i64 _ _ _ Tryz.underlying3) (eqf_cons (by decide) (by kernel_rfl) (by kernel_rfl) (run_equalIn_int w _ _ .i64 _ _ _ Tryz.underlying3) (eqf_cons (by decide) (by kernel_rfl) (by kernel_rfl) (run_equalIn_int w _ _ .i64 _ _ _ Tryz.underlying3) (eqf_cons (by decide) (by kernel_rfl) (by kernel_rfl) (run_equalIn_bool w _ _ _ _ Tryz.underlying4) rfl))))

end Go.Proofs.YtgmmoghagpmpfaaGreatDoor

/- The formulas of functions by the symbolic evaluator, and that each gives the call's contract. Written by a program (gen.py). No condition. -/
namespace Go.Proofs.YtgmmoghagpmpfaaGreatDoor
set_option maxRecDepth 100000
set_option linter.unusedVariables false

def VC_acnew (w : World) (R : Ending → World → Prop) : Prop :=
 ∀ (n : Nat) (w1 : World),
 NewB w (Obj.map #[] 0) n w1 →
 KeptL [] w w1 ∧
 ∀ (n_1 : Nat) (W : World),
 Loc w.heap.size [Blk.mk n_1 99 [Value.map (some n)] 2] w1 W →
 R (Ending.returned (Value.pointer (some (Addr.mk n_1 0 none)))) W
theorem vc_acnew (w : World) (R : Ending → World → Prop) (h : VC_acnew w R) : Calls Tryz.prog 19 ([] : List Value).toArray w R := by
  have e : execR2 { P := Tryz.prog, loops := [], pur := pur1, tails := [], joins := [], boxes := [] } Tryz.f19.results.toList R (Tryz.f19.body.getD .skip) (initF [] (Tryz.f19.ntmps - ([] : List Value).length)) w = VC_acnew w R := by kernel_rfl
  have hb : Tryz.f19.body = some (Tryz.f19.body.getD .skip) := by kernel_rfl
  exact calls_of_exec2' (P := Tryz.prog) (fn := Tryz.f19) (c := Tryz.f19.body.getD .skip) (args := []) (w := w) (R := R) pur1_ok Tryz.func19 hb e h

def VC_acfind (b : Nat) (s : ByteArray) (w : World) (R : Ending → World → Prop) : Prop :=
 ∀ (n : Nat),
 ∃ (x : Option Nat),
 (∀ (W : World),
 Loc w.heap.size [Blk.mk n 94 [Value.int IntKind.i64 0, Value.bool false, Value.slice none 0 0] 2] w W →
 W.cell? (Addr.mk b 0 none) = some (Value.map x)) ∧
 ∃ (x_1 : Int),
 ∃ (x_2 : Bool),
 ∃ (p : Option Addr),
 ∃ (n_1 : Nat),
 ∃ (c : Nat),
 ∃ (b : Bool),
 (∀ (W : World),
 Loc w.heap.size [Blk.mk n 94 [Value.int IntKind.i64 0, Value.bool false, Value.slice none 0 0] 2] w W →
 LookP Tryz.prog 97 (Value.map x) (Value.string s) true
 (Value.tuple #[Value.agg #[Value.int IntKind.i64 x_1, Value.bool x_2, Value.slice p n_1 c], Value.bool b])
 W) ∧
 ∀ (n_2 : Nat),
 bsp (!b)
 (∀ (W : World),
 Loc w.heap.size
 [Blk.mk n_2 94 [Value.int IntKind.i64 x_1, Value.bool x_2, Value.slice p n_1 c] (wrM 2),
 Blk.mk n 94 [Value.int IntKind.i64 0, Value.bool false, Value.slice none 0 0] (wrM 2)]
 w W →
 R
 (Ending.returned
 (Value.tuple
 #[Value.agg #[Value.int IntKind.i64 0, Value.bool false, Value.slice none 0 0],
 Value.int IntKind.i64 8]))
 W)
 (∀ (W : World),
 Loc w.heap.size
 [Blk.mk n_2 94 [Value.int IntKind.i64 x_1, Value.bool x_2, Value.slice p n_1 c] (wrM 2),
 Blk.mk n 94 [Value.int IntKind.i64 x_1, Value.bool x_2, Value.slice p n_1 c] (wrM 2)]
 w W →
 R
 (Ending.returned
 (Value.tuple
 #[Value.agg #[Value.int IntKind.i64 x_1, Value.bool x_2, Value.slice p n_1 c],
 Value.int IntKind.i64 0]))
 W)
theorem vc_acfind (b : Nat) (s : ByteArray) (w : World) (R : Ending → World → Prop) (h : VC_acfind b s w R) : Calls Tryz.prog 45 ([Value.pointer
    (some { block := b, off := 0 }),
  Value.string s] : List Value).toArray w R := by
  have e : execR2 { P := Tryz.prog, loops := [], pur := pur1, tails := [], joins := [], boxes := [] } Tryz.f45.results.toList R (Tryz.f45.body.getD .skip) (initF [Value.pointer
    (some { block := b, off := 0 }),
  Value.string
    s] (Tryz.f45.ntmps - ([Value.pointer (some { block := b, off := 0 }),
  Value.string s] : List Value).length)) w = VC_acfind b s w R := by kernel_rfl
  have hb : Tryz.f45.body = some (Tryz.f45.body.getD .skip) := by kernel_rfl
  exact calls_of_exec2' (P := Tryz.prog) (fn := Tryz.f45) (c := Tryz.f45.body.getD .skip) (args := [Value.pointer
    (some { block := b, off := 0 }),
  Value.string s]) (w := w) (R := R) pur1_ok Tryz.func45 hb e h

def VC_acopen (b : Nat) (s : ByteArray) (w : World) (R : Ending → World → Prop) : Prop :=
 CallsS Tryz.prog 64 #[Value.string s] w fun (e : Ending) (w' : World) =>
 ∃ (x : Int),
 e = Ending.returned (Value.int IntKind.i64 x) ∧
 KeptL [] w w' ∧
 bsp (x != 0) (R (Ending.returned (Value.int IntKind.i64 x)) w')
 (∃ (x : Option Nat),
 w'.cell? (Addr.mk b 0 none) = some (Value.map x) ∧
 ∃ (x_1 : Int),
 ∃ (x_2 : Bool),
 ∃ (p : Option Addr),
 ∃ (n : Nat),
 ∃ (c : Nat),
 ∃ (b_1 : Bool),
 LookP Tryz.prog 97 (Value.map x) (Value.string s) true
 (Value.tuple
 #[Value.agg #[Value.int IntKind.i64 x_1, Value.bool x_2, Value.slice p n c], Value.bool b_1])
 w' ∧
 ∀ (n_1 : Nat),
 ∃ (x : Bool),
 gimp b_1
 (∀ (W : World),
 Loc w.heap.size
 [Blk.mk n_1 94 [Value.int IntKind.i64 x_1, Value.bool x_2, Value.slice p n c] (wrM 2)] w' W →
 W.cell? (Addr.mk n_1 (0 + 1) none) = some (Value.bool x)) ∧
 bsp (b_1 && !x)
 (∀ (W : World),
 Loc w.heap.size
 [Blk.mk n_1 94 [Value.int IntKind.i64 x_1, Value.bool x_2, Value.slice p n c] (wrM 2)] w' W →
 R (Ending.returned (Value.int IntKind.i64 7)) W)
 (∃ (x : Option Nat),
 gimp (!b_1)
 (∀ (W : World),
 Loc w.heap.size
 [Blk.mk n_1 94 [Value.int IntKind.i64 x_1, Value.bool x_2, Value.slice p n c] (wrM 2)] w' W →
 W.cell? (Addr.mk b 0 none) = some (Value.map x)) ∧
 ∃ (n_2 : Int),
 gimp (!b_1)
 (∀ (W : World),
 Loc w.heap.size
 [Blk.mk n_1 94 [Value.int IntKind.i64 x_1, Value.bool x_2, Value.slice p n c] (wrM 2)] w' W →
 LenP Tryz.prog 97 (Value.map x) n_2 W) ∧
 bsp (!b_1 && decide (n_2 ≥ 4096))
 (∀ (W : World),
 Loc w.heap.size
 [Blk.mk n_1 94 [Value.int IntKind.i64 x_1, Value.bool x_2, Value.slice p n c] (wrM 2)] w' W →
 R (Ending.returned (Value.int IntKind.i64 9)) W)
 (∃ (x : Option Nat),
 (∀ (W : World),
 Loc w.heap.size
 [Blk.mk n_1 94 [Value.int IntKind.i64 x_1, Value.bool x_2, Value.slice p n c] (wrM 2)] w'
 W →
 W.cell? (Addr.mk b 0 none) = some (Value.map x)) ∧
 bsp x.isNone
 (∀ (W : World),
 Loc w.heap.size
 [Blk.mk n_1 94 [Value.int IntKind.i64 x_1, Value.bool x_2, Value.slice p n c] (wrM 2)] w'
 W →
 ∀ (n_3 : Nat) (w1 : World),
 NewB W (Obj.map #[] 0) n_3 w1 →
 KeptL [n_1] W w1 ∧
 ((∃ (u : Value), w1.cell? (Addr.mk b 0 none) = some u) ∧
 w1.frozen? (Addr.mk b 0 none) = false) ∧
 ∀ (w1_1 : World),
 PutB w1 b 0 [Value.map (some n_3)] w1_1 →
 KeptL [n_1] w1 w1_1 ∧
 ∃ (x : Option Nat),
 (∀ (W : World),
 Loc w.heap.size
 [Blk.mk n_1 94 [Value.int IntKind.i64 x_1, Value.bool false, Value.slice p n c]
 (wrM 0)]
 w1_1 W →
 W.cell? (Addr.mk b 0 none) = some (Value.map x)) ∧
 ∀ (W : World),
 Loc w.heap.size
 [Blk.mk n_1 94 [Value.int IntKind.i64 x_1, Value.bool false, Value.slice p n c]
 (wrM 0)]
 w1_1 W →
 ∃ (w1 : World),
 UpdP Tryz.prog 97 (Value.map x) (Value.string s)
 (Value.agg #[Value.int IntKind.i64 x_1, Value.bool false, Value.slice p n c])
 W w1 ∧
 KeptL [n_1] W w1 ∧ R (Ending.returned (Value.int IntKind.i64 0)) w1)
 (∃ (x : Option Nat),
 (∀ (W : World),
 Loc w.heap.size
 [Blk.mk n_1 94 [Value.int IntKind.i64 x_1, Value.bool false, Value.slice p n c]
 (wrM (wrM 2))]
 w' W →
 W.cell? (Addr.mk b 0 none) = some (Value.map x)) ∧
 ∀ (W : World),
 Loc w.heap.size
 [Blk.mk n_1 94 [Value.int IntKind.i64 x_1, Value.bool false, Value.slice p n c]
 (wrM (wrM 2))]
 w' W →
 ∃ (w1 : World),
 UpdP Tryz.prog 97 (Value.map x) (Value.string s)
 (Value.agg #[Value.int IntKind.i64 x_1, Value.bool false, Value.slice p n c]) W w1 ∧
 KeptL [n_1] W w1 ∧ R (Ending.returned (Value.int IntKind.i64 0)) w1))))
theorem vc_acopen (b : Nat) (s : ByteArray) (w : World) (R : Ending → World → Prop) (h : VC_acopen b s w R) : Calls Tryz.prog 31 ([Value.pointer
    (some { block := b, off := 0 }),
  Value.string s] : List Value).toArray w R := by
  have e : execR2 { P := Tryz.prog, loops := [], pur := pur1, tails := [(14, 6)], joins := [], boxes := [] } Tryz.f31.results.toList R (Tryz.f31.body.getD .skip) (initF [Value.pointer
    (some { block := b, off := 0 }),
  Value.string
    s] (Tryz.f31.ntmps - ([Value.pointer (some { block := b, off := 0 }),
  Value.string s] : List Value).length)) w = VC_acopen b s w R := by kernel_rfl
  have hb : Tryz.f31.body = some (Tryz.f31.body.getD .skip) := by kernel_rfl
  exact calls_of_exec2' (P := Tryz.prog) (fn := Tryz.f31) (c := Tryz.f31.body.getD .skip) (args := [Value.pointer
    (some { block := b, off := 0 }),
  Value.string s]) (w := w) (R := R) pur1_ok Tryz.func31 hb e h

def VC_acwith (p : Option Addr) (n : Nat) (c : Nat) (v : Int) (w : World) (R : Ending → World → Prop) : Prop :=
 nn (decide (IntKind.i64.wrap ((↑n : Int) - 1) ≥ 0)) p fun (b o : Nat) =>
 gimp (decide (IntKind.i64.wrap ((↑n : Int) - 1) ≥ 0))
 (0 ≤ IntKind.i64.wrap ((↑n : Int) - 1) ∧ IntKind.i64.wrap ((↑n : Int) - 1) < (↑n : Int)) ∧
 ∃ (x : Int),
 gimp (decide (IntKind.i64.wrap ((↑n : Int) - 1) ≥ 0))
 (w.cell? (Addr.mk b (o + (IntKind.i64.wrap ((↑n : Int) - 1)).toNat * 2 + 1) none) =
 some (Value.int IntKind.i64 x)) ∧
 bsp (decide (IntKind.i64.wrap ((↑n : Int) - 1) ≥ 0) && x == IntKind.i64.wrap (v - 1))
 (nn true p fun (b o : Nat) =>
 (0 ≤ IntKind.i64.wrap ((↑n : Int) - 1) ∧ IntKind.i64.wrap ((↑n : Int) - 1) < (↑n : Int)) ∧
 ((∃ (u : Value), w.cell? (Addr.mk b (o + (IntKind.i64.wrap ((↑n : Int) - 1)).toNat * 2 + 1) none) = some u) ∧
 w.frozen? (Addr.mk b (o + (IntKind.i64.wrap ((↑n : Int) - 1)).toNat * 2 + 1) none) = false) ∧
 ∀ (w1 : World),
 PutB w b (o + (IntKind.i64.wrap ((↑n : Int) - 1)).toNat * 2 + 1) [Value.int IntKind.i64 v] w1 →
 KeptL [] w w1 ∧ R (Ending.returned (Value.slice p n c)) w1)
 (∀ (n_1 : Nat) (W : World),
 Loc w.heap.size [Blk.mk n_1 105 [Value.int IntKind.i64 v, Value.int IntKind.i64 v] 2] w W →
 ∃ (base : Nat),
 ∃ (xs : List Value),
 W.ownsRow base 105 2 (Value.slice p n c) n xs ∧
 n + 1 ≤ 9223372036854775807 ∧
 (n + 1) * 16 ≤ 140737488355328 ∧
 base ≤ W.heap.size ∧
 ∀ (p' : Option Addr) (c' : Nat) (w' : World),
 w'.ownsRow base 105 2 (Value.slice p' (n + 1) c') (n + 1)
 (xs ++ [Value.int IntKind.i64 v, Value.int IntKind.i64 v]) →
 W.grownBy w' (Value.slice p n c).ownBlock →
 AppL W p n c 1 p' c' → KeptL [] W w' ∧ R (Ending.returned (Value.slice p' (n + 1) c')) w')
theorem vc_acwith (p : Option Addr) (n : Nat) (c : Nat) (v : Int) (w : World) (R : Ending → World → Prop) (h : VC_acwith p n c v w R) : Calls Tryz.prog 61 ([Value.slice
    p n c,
  Value.int IntKind.i64 v] : List Value).toArray w R := by
  have e : execR2 { P := Tryz.prog, loops := [], pur := pur1, tails := [], joins := [], boxes := [] } Tryz.f61.results.toList R (Tryz.f61.body.getD .skip) (initF [Value.slice
    p n c,
  Value.int IntKind.i64
    v] (Tryz.f61.ntmps - ([Value.slice p n c,
  Value.int IntKind.i64 v] : List Value).length)) w = VC_acwith p n c v w R := by kernel_rfl
  have hb : Tryz.f61.body = some (Tryz.f61.body.getD .skip) := by kernel_rfl
  exact calls_of_exec2' (P := Tryz.prog) (fn := Tryz.f61) (c := Tryz.f61.body.getD .skip) (args := [Value.slice p n c,
  Value.int IntKind.i64 v]) (w := w) (R := R) pur1_ok Tryz.func61 hb e h

def VC_acremove (b : Nat) (s : ByteArray) (v : Int) (w : World) (R : Ending → World → Prop) : Prop :=
 ∀ (n : Nat) (W : World),
 Loc w.heap.size [Blk.mk n 64 [Value.string s, Value.int IntKind.i64 v] 2] w W →
 CallsS Tryz.prog 45 #[Value.pointer (some (Addr.mk b 0 none)), Value.string s] W fun (e : Ending) (w' : World) =>
 ∃ (x : Int),
 ∃ (x_1 : Bool),
 ∃ (p : Option Addr),
 ∃ (n_1 : Nat),
 ∃ (c : Nat),
 ∃ (x_2 : Int),
 e =
 Ending.returned
 (Value.tuple
 #[Value.agg #[Value.int IntKind.i64 x, Value.bool x_1, Value.slice p n_1 c], Value.int IntKind.i64 x_2]) ∧
 KeptL [n] W w' ∧
 ∀ (n_2 : Nat),
 bsp (x_2 != 0)
 (∀ (W : World),
 Loc w.heap.size
 [Blk.mk n_2 94 [Value.int IntKind.i64 x, Value.bool x_1, Value.slice p n_1 c] (wrM 2),
 Blk.mk n 64 [Value.string s, Value.int IntKind.i64 v] 0]
 w' W →
 R (Ending.returned (Value.int IntKind.i64 x_2)) W)
 (∀ (W : World),
 Loc w.heap.size
 [Blk.mk n_2 94 [Value.int IntKind.i64 x, Value.bool x_1, Value.slice p n_1 c] (wrM 2),
 Blk.mk n 64 [Value.string s, Value.int IntKind.i64 v] 0]
 w' W →
 CallsS Tryz.prog 63
 #[Value.agg #[Value.int IntKind.i64 x, Value.bool x_1, Value.slice p n_1 c], Value.int IntKind.i64 v] W
 fun (e : Ending) (w' : World) =>
 ∃ (x_3 : Bool),
 e = Ending.returned (Value.bool x_3) ∧
 KeptL [n_2, n] W w' ∧
 bsp (!x_3) (R (Ending.returned (Value.int IntKind.i64 8)) w')
 (∀ (n_3 : Nat) (W : World),
 Loc w.heap.size
 [Blk.mk n_3 92 [Value.slice none 0 0] 2,
 Blk.mk n_2 94 [Value.int IntKind.i64 x, Value.bool x_1, Value.slice p n_1 c] 0,
 Blk.mk n 64 [Value.string s, Value.int IntKind.i64 v] 0]
 w' W →
 ∃ (I : List Value → World → Prop),
 ∃ (m : List Value → World → Nat),
 I [Value.int IntKind.i64 0] W ∧
 ∀ (x_4 : Int) (w' : World),
 I [Value.int IntKind.i64 x_4] w' →
 Loc w.heap.size
 [Blk.mk n_2 94 [Value.int IntKind.i64 x, Value.bool x_1, Value.slice p n_1 c] 0,
 Blk.mk n 64 [Value.string s, Value.int IntKind.i64 v] 0]
 w' w' →
 bsp (decide (x_4 < (↑n_1 : Int)))
 (nn true p fun (b o : Nat) =>
 (0 ≤ x_4 ∧ x_4 < (↑n_1 : Int)) ∧
 ∃ (x_5 : Int),
 ∃ (x_6 : Int),
 AtL w' b (o + x_4.toNat * 2) [Value.int IntKind.i64 x_5, Value.int IntKind.i64 x_6] ∧
 ∀ (n_4 : Nat),
 ∃ (x_7 : Int),
 gimp (!decide (v < x_5))
 (∀ (W : World),
 Loc w.heap.size
 [Blk.mk n_2 94 [Value.int IntKind.i64 x, Value.bool x_1, Value.slice p n_1 c]
 0,
 Blk.mk n 64 [Value.string s, Value.int IntKind.i64 v] 0,
 Blk.mk n_4 105 [Value.int IntKind.i64 x_5, Value.int IntKind.i64 x_6] (wrM 2)]
 w' W →
 W.cell? (Addr.mk n (0 + 1) none) = some (Value.int IntKind.i64 x_7)) ∧
 ∃ (x_8 : Int),
 gimp (!decide (v < x_5))
 (∀ (W : World),
 Loc w.heap.size
 [Blk.mk n_2 94 [Value.int IntKind.i64 x, Value.bool x_1, Value.slice p n_1 c]
 0,
 Blk.mk n 64 [Value.string s, Value.int IntKind.i64 v] 0,
 Blk.mk n_4 105 [Value.int IntKind.i64 x_5, Value.int IntKind.i64 x_6]
 (wrM 2)]
 w' W →
 W.cell? (Addr.mk n_4 (0 + 1) none) = some (Value.int IntKind.i64 x_8)) ∧
 bsp (decide (v < x_5) || decide (x_7 > x_8))
 (∀ (W : World),
 Loc w.heap.size
 [Blk.mk n_2 94 [Value.int IntKind.i64 x, Value.bool x_1, Value.slice p n_1 c]
 0,
 Blk.mk n 64 [Value.string s, Value.int IntKind.i64 v] 0,
 Blk.mk n_4 105 [Value.int IntKind.i64 x_5, Value.int IntKind.i64 x_6]
 (wrM 2)]
 w' W →
 ∃ (f : Nat),
 ∃ (a : Array Value),
 ∃ (b : Array Value),
 Value.func (Fn.func 65) #[] #[Value.pointer (some (Addr.mk n_3 0 none))] =
 Value.func (Fn.func f) a b ∧
 okFn Tryz.prog f = true ∧
 CallsS Tryz.prog f
 (appA a [Value.int IntKind.i64 x_5, Value.int IntKind.i64 x_6] b) W
 fun (e : Ending) (w'_1 : World) =>
 e = Ending.returned (Value.tuple #[]) ∧
 KeptL [n_2, n, n_4] W w'_1 ∧
 I [Value.int IntKind.i64 (IntKind.i64.wrap (x_4 + 1))] w'_1 ∧
 m [Value.int IntKind.i64 (IntKind.i64.wrap (x_4 + 1))] w'_1 <
 m [Value.int IntKind.i64 x_4] w')
 (∀ (W : World),
 Loc w.heap.size
 [Blk.mk n_2 94 [Value.int IntKind.i64 x, Value.bool x_1, Value.slice p n_1 c]
 0,
 Blk.mk n 64 [Value.string s, Value.int IntKind.i64 v] 0,
 Blk.mk n_4 105 [Value.int IntKind.i64 x_5, Value.int IntKind.i64 x_6]
 (wrM 2)]
 w' W →
 ∃ (f : Nat),
 ∃ (a : Array Value),
 ∃ (b : Array Value),
 Value.func (Fn.func 65) #[] #[Value.pointer (some (Addr.mk n_3 0 none))] =
 Value.func (Fn.func f) a b ∧
 okFn Tryz.prog f = true ∧
 CallsS Tryz.prog f
 (appA a
 [Value.int IntKind.i64 x_5,
 Value.int IntKind.i64 (IntKind.i64.wrap (v - 1))]
 b)
 W fun (e : Ending) (w'_1 : World) =>
 e = Ending.returned (Value.tuple #[]) ∧
 KeptL [n_2, n, n_4] W w'_1 ∧
 ∃ (f : Nat),
 ∃ (a : Array Value),
 ∃ (b : Array Value),
 Value.func (Fn.func 65) #[]
 #[Value.pointer (some (Addr.mk n_3 0 none))] =
 Value.func (Fn.func f) a b ∧
 okFn Tryz.prog f = true ∧
 CallsS Tryz.prog f
 (appA a
 [Value.int IntKind.i64 (IntKind.i64.wrap (v + 1)),
 Value.int IntKind.i64 x_6]
 b)
 w'_1 fun (e : Ending) (w'_2 : World) =>
 e = Ending.returned (Value.tuple #[]) ∧
 KeptL [n_2, n, n_4] w'_1 w'_2 ∧
 I [Value.int IntKind.i64 (IntKind.i64.wrap (x_4 + 1))] w'_2 ∧
 m [Value.int IntKind.i64 (IntKind.i64.wrap (x_4 + 1))] w'_2 <
 m [Value.int IntKind.i64 x_4] w'))
 (∃ (p : Option Addr),
 ∃ (n_4 : Nat),
 ∃ (c : Nat),
 w'.cell? (Addr.mk n_3 0 none) = some (Value.slice p n_4 c) ∧
 ∃ (x_5 : Option Nat),
 (∀ (W : World),
 Loc w.heap.size
 [Blk.mk n_2 94 [Value.int IntKind.i64 x, Value.bool x_1, Value.slice p n_4 c]
 (wrM 0),
 Blk.mk n 64 [Value.string s, Value.int IntKind.i64 v] 0]
 w' W →
 W.cell? (Addr.mk b 0 none) = some (Value.map x_5)) ∧
 ∀ (W : World),
 Loc w.heap.size
 [Blk.mk n_2 94 [Value.int IntKind.i64 x, Value.bool x_1, Value.slice p n_4 c]
 (wrM 0),
 Blk.mk n 64 [Value.string s, Value.int IntKind.i64 v] 0]
 w' W →
 ∃ (w1 : World),
 UpdP Tryz.prog 97 (Value.map x_5) (Value.string s)
 (Value.agg #[Value.int IntKind.i64 x, Value.bool x_1, Value.slice p n_4 c]) W
 w1 ∧
 KeptL [n_2, n] W w1 ∧ R (Ending.returned (Value.int IntKind.i64 0)) w1)))
theorem vc_acremove (b : Nat) (s : ByteArray) (v : Int) (w : World) (R : Ending → World → Prop) (h : VC_acremove b s v w R) : Calls Tryz.prog 33 ([Value.pointer
    (some { block := b, off := 0 }),
  Value.agg #[Value.string s, Value.int IntKind.i64 v]] : List Value).toArray w R := by
  have e : execR2 { P := Tryz.prog, loops := [(9, [(30, Ck.int IntKind.i64)])], pur := pur1, tails := [(17, 7)], joins := [], boxes := [] } Tryz.f33.results.toList R (Tryz.f33.body.getD .skip) (initF [Value.pointer
    (some { block := b, off := 0 }),
  Value.agg
    #[Value.string s,
      Value.int IntKind.i64
        v]] (Tryz.f33.ntmps - ([Value.pointer (some { block := b, off := 0 }),
  Value.agg
    #[Value.string s, Value.int IntKind.i64 v]] : List Value).length)) w = VC_acremove b s v w R := by kernel_rfl
  have hb : Tryz.f33.body = some (Tryz.f33.body.getD .skip) := by kernel_rfl
  exact calls_of_exec2' (P := Tryz.prog) (fn := Tryz.f33) (c := Tryz.f33.body.getD .skip) (args := [Value.pointer
    (some { block := b, off := 0 }),
  Value.agg #[Value.string s, Value.int IntKind.i64 v]]) (w := w) (R := R) pur1_ok Tryz.func33 hb e h

def VC_achasg (z : Int) (cl : Bool) (p : Option Addr) (n : Nat) (c : Nat) (v : Int) (w : World) (R : Ending → World → Prop) : Prop :=
 ∀ (n_1 n_2 : Nat) (W : World),
 Loc w.heap.size
 [Blk.mk n_2 3 [Value.int IntKind.i64 v] 2,
 Blk.mk n_1 94 [Value.int IntKind.i64 z, Value.bool cl, Value.slice p n c] 2]
 w W →
 CallsS Tryz.prog 85 #[Value.slice p n c, Value.func (Fn.func 86) #[] #[Value.pointer (some (Addr.mk n_2 0 none))]] W
 fun (e : Ending) (w' : World) =>
 ∃ (x : Bool), e = Ending.returned (Value.bool x) ∧ KeptL [n_1] W w' ∧ R (Ending.returned (Value.bool x)) w'
theorem vc_achasg (z : Int) (cl : Bool) (p : Option Addr) (n : Nat) (c : Nat) (v : Int) (w : World) (R : Ending → World → Prop) (h : VC_achasg z cl p n c v w R) : Calls Tryz.prog 63 ([Value.agg
    #[Value.int IntKind.i64 z, Value.bool cl, Value.slice p n c],
  Value.int IntKind.i64 v] : List Value).toArray w R := by
  have e : execR2 { P := Tryz.prog, loops := [], pur := pur1, tails := [], joins := [], boxes := [] } Tryz.f63.results.toList R (Tryz.f63.body.getD .skip) (initF [Value.agg
    #[Value.int IntKind.i64 z, Value.bool cl, Value.slice p n c],
  Value.int IntKind.i64
    v] (Tryz.f63.ntmps - ([Value.agg #[Value.int IntKind.i64 z, Value.bool cl, Value.slice p n c],
  Value.int IntKind.i64 v] : List Value).length)) w = VC_achasg z cl p n c v w R := by kernel_rfl
  have hb : Tryz.f63.body = some (Tryz.f63.body.getD .skip) := by kernel_rfl
  exact calls_of_exec2' (P := Tryz.prog) (fn := Tryz.f63) (c := Tryz.f63.body.getD .skip) (args := [Value.agg
    #[Value.int IntKind.i64 z, Value.bool cl, Value.slice p n c],
  Value.int IntKind.i64 v]) (w := w) (R := R) pur1_ok Tryz.func63 hb e h

def VC_acget (b : Nat) (s : ByteArray) (w : World) (R : Ending → World → Prop) : Prop :=
 ∀ (n : Nat) (W : World),
 Loc w.heap.size
 [Blk.mk n 31
 [Value.string (ByteArray.mk #[]), Value.int IntKind.i64 0, Value.int IntKind.i64 0, Value.int IntKind.i64 0,
 Value.bool false]
 2]
 w W →
 CallsS Tryz.prog 45 #[Value.pointer (some (Addr.mk b 0 none)), Value.string s] W fun (e : Ending) (w' : World) =>
 ∃ (x : Int),
 ∃ (x_1 : Bool),
 ∃ (p : Option Addr),
 ∃ (n_1 : Nat),
 ∃ (c : Nat),
 ∃ (x_2 : Int),
 e =
 Ending.returned
 (Value.tuple
 #[Value.agg #[Value.int IntKind.i64 x, Value.bool x_1, Value.slice p n_1 c], Value.int IntKind.i64 x_2]) ∧
 KeptL [n] W w' ∧
 ∀ (n_2 : Nat),
 bsp (x_2 != 0)
 (∀ (W : World),
 Loc w.heap.size
 [Blk.mk n_2 94 [Value.int IntKind.i64 x, Value.bool x_1, Value.slice p n_1 c] (wrM 2),
 Blk.mk n 31
 [Value.string (ByteArray.mk #[]), Value.int IntKind.i64 0, Value.int IntKind.i64 0,
 Value.int IntKind.i64 0, Value.bool false]
 (wrM 0)]
 w' W →
 R
 (Ending.returned
 (Value.tuple
 #[Value.agg
 #[Value.string (ByteArray.mk #[]), Value.int IntKind.i64 0, Value.int IntKind.i64 0,
 Value.int IntKind.i64 0, Value.bool false],
 Value.int IntKind.i64 x_2]))
 W)
 (∀ (n_3 : Nat),
 bsp (decide ((↑n_1 : Int) > 0))
 (nn true p fun (b o : Nat) =>
 ((0 : Int) ≤ 0 ∧ 0 < (↑n_1 : Int)) ∧
 ∃ (x_3 : Int),
 (∀ (W : World),
 Loc w.heap.size
 [Blk.mk n_3 31
 [Value.string s, Value.int IntKind.i64 (IntKind.i64.wrap (x + 1)), Value.int IntKind.i64 x,
 Value.int IntKind.i64 0, Value.bool x_1]
 (wrM 2),
 Blk.mk n_2 94 [Value.int IntKind.i64 x, Value.bool x_1, Value.slice p n_1 c] (wrM 2),
 Blk.mk n 31
 [Value.string (ByteArray.mk #[]), Value.int IntKind.i64 0, Value.int IntKind.i64 0,
 Value.int IntKind.i64 0, Value.bool false]
 0]
 w' W →
 W.cell? (Addr.mk b o none) = some (Value.int IntKind.i64 x_3)) ∧
 ∀ (W : World),
 Loc w.heap.size
 [Blk.mk n_3 31
 [Value.string s, Value.int IntKind.i64 x_3, Value.int IntKind.i64 x, Value.int IntKind.i64 0,
 Value.bool x_1]
 (wrM (wrM 2)),
 Blk.mk n_2 94 [Value.int IntKind.i64 x, Value.bool x_1, Value.slice p n_1 c] (wrM 2),
 Blk.mk n 31
 [Value.string (ByteArray.mk #[]), Value.int IntKind.i64 0, Value.int IntKind.i64 0,
 Value.int IntKind.i64 0, Value.bool false]
 0]
 w' W →
 ∃ (I : List Value → World → Prop),
 ∃ (m : List Value → World → Nat),
 I [Value.int IntKind.i64 0] W ∧
 ∀ (x_4 : Int) (w' : World),
 I [Value.int IntKind.i64 x_4] w' →
 Loc w.heap.size
 [Blk.mk n_2 94 [Value.int IntKind.i64 x, Value.bool x_1, Value.slice p n_1 c] 0,
 Blk.mk n 31
 [Value.string (ByteArray.mk #[]), Value.int IntKind.i64 0, Value.int IntKind.i64 0,
 Value.int IntKind.i64 0, Value.bool false]
 0]
 w' w' →
 bsp (decide (x_4 < (↑n_1 : Int)))
 (nn true p fun (b o : Nat) =>
 (0 ≤ x_4 ∧ x_4 < (↑n_1 : Int)) ∧
 ∃ (x_5 : Int),
 ∃ (x_6 : Int),
 AtL w' b (o + x_4.toNat * 2) [Value.int IntKind.i64 x_5, Value.int IntKind.i64 x_6] ∧
 ∀ (n_4 : Nat),
 ∃ (x_7 : Int),
 (∀ (W : World),
 Loc w.heap.size
 [Blk.mk n_2 94 [Value.int IntKind.i64 x, Value.bool x_1, Value.slice p n_1 c] 0,
 Blk.mk n 31
 [Value.string (ByteArray.mk #[]), Value.int IntKind.i64 0,
 Value.int IntKind.i64 0, Value.int IntKind.i64 0, Value.bool false]
 0,
 Blk.mk n_4 105 [Value.int IntKind.i64 x_5, Value.int IntKind.i64 x_6] (wrM 2)]
 w' W →
 W.cell? (Addr.mk n_3 (0 + 3) none) = some (Value.int IntKind.i64 x_7)) ∧
 ∀ (W : World),
 Loc w.heap.size
 [Blk.mk n_2 94 [Value.int IntKind.i64 x, Value.bool x_1, Value.slice p n_1 c] 0,
 Blk.mk n 31
 [Value.string (ByteArray.mk #[]), Value.int IntKind.i64 0,
 Value.int IntKind.i64 0, Value.int IntKind.i64 0, Value.bool false]
 0,
 Blk.mk n_4 105 [Value.int IntKind.i64 x_5, Value.int IntKind.i64 x_6] (wrM 2)]
 w' W →
 ((∃ (u : Value), W.cell? (Addr.mk n_3 (0 + 3) none) = some u) ∧
 W.frozen? (Addr.mk n_3 (0 + 3) none) = false) ∧
 ∀ (w1 : World),
 PutB W n_3 (0 + 3)
 [Value.int IntKind.i64
 (IntKind.i64.wrap
 (x_7 + IntKind.i64.wrap (IntKind.i64.wrap (x_6 - x_5) + 1)))]
 w1 →
 KeptL [n_2, n, n_4] W w1 ∧
 I [Value.int IntKind.i64 (IntKind.i64.wrap (x_4 + 1))] w1 ∧
 m [Value.int IntKind.i64 (IntKind.i64.wrap (x_4 + 1))] w1 <
 m [Value.int IntKind.i64 x_4] w')
 (∃ (x_5 : ByteArray),
 ∃ (x_6 : Int),
 ∃ (x_7 : Int),
 ∃ (x_8 : Int),
 ∃ (x_9 : Bool),
 AtL w' n_3 0
 [Value.string x_5, Value.int IntKind.i64 x_6, Value.int IntKind.i64 x_7,
 Value.int IntKind.i64 x_8, Value.bool x_9] ∧
 ∀ (W : World),
 Loc w.heap.size
 [Blk.mk n_2 94 [Value.int IntKind.i64 x, Value.bool x_1, Value.slice p n_1 c] 0,
 Blk.mk n 31
 [Value.string x_5, Value.int IntKind.i64 x_6, Value.int IntKind.i64 x_7,
 Value.int IntKind.i64 x_8, Value.bool x_9]
 (wrM 0)]
 w' W →
 R
 (Ending.returned
 (Value.tuple
 #[Value.agg
 #[Value.string x_5, Value.int IntKind.i64 x_6, Value.int IntKind.i64 x_7,
 Value.int IntKind.i64 x_8, Value.bool x_9],
 Value.int IntKind.i64 0]))
 W))
 (∀ (W : World),
 Loc w.heap.size
 [Blk.mk n_3 31
 [Value.string s, Value.int IntKind.i64 (IntKind.i64.wrap (x + 1)), Value.int IntKind.i64 x,
 Value.int IntKind.i64 0, Value.bool x_1]
 (wrM 2),
 Blk.mk n_2 94 [Value.int IntKind.i64 x, Value.bool x_1, Value.slice p n_1 c] (wrM 2),
 Blk.mk n 31
 [Value.string (ByteArray.mk #[]), Value.int IntKind.i64 0, Value.int IntKind.i64 0,
 Value.int IntKind.i64 0, Value.bool false]
 0]
 w' W →
 ∃ (I : List Value → World → Prop),
 ∃ (m : List Value → World → Nat),
 I [Value.int IntKind.i64 0] W ∧
 ∀ (x_3 : Int) (w' : World),
 I [Value.int IntKind.i64 x_3] w' →
 Loc w.heap.size
 [Blk.mk n_2 94 [Value.int IntKind.i64 x, Value.bool x_1, Value.slice p n_1 c] 0,
 Blk.mk n 31
 [Value.string (ByteArray.mk #[]), Value.int IntKind.i64 0, Value.int IntKind.i64 0,
 Value.int IntKind.i64 0, Value.bool false]
 0]
 w' w' →
 bsp (decide (x_3 < (↑n_1 : Int)))
 (nn true p fun (b o : Nat) =>
 (0 ≤ x_3 ∧ x_3 < (↑n_1 : Int)) ∧
 ∃ (x_4 : Int),
 ∃ (x_5 : Int),
 AtL w' b (o + x_3.toNat * 2) [Value.int IntKind.i64 x_4, Value.int IntKind.i64 x_5] ∧
 ∀ (n_4 : Nat),
 ∃ (x_6 : Int),
 (∀ (W : World),
 Loc w.heap.size
 [Blk.mk n_2 94 [Value.int IntKind.i64 x, Value.bool x_1, Value.slice p n_1 c] 0,
 Blk.mk n 31
 [Value.string (ByteArray.mk #[]), Value.int IntKind.i64 0, Value.int IntKind.i64 0,
 Value.int IntKind.i64 0, Value.bool false]
 0,
 Blk.mk n_4 105 [Value.int IntKind.i64 x_4, Value.int IntKind.i64 x_5] (wrM 2)]
 w' W →
 W.cell? (Addr.mk n_3 (0 + 3) none) = some (Value.int IntKind.i64 x_6)) ∧
 ∀ (W : World),
 Loc w.heap.size
 [Blk.mk n_2 94 [Value.int IntKind.i64 x, Value.bool x_1, Value.slice p n_1 c] 0,
 Blk.mk n 31
 [Value.string (ByteArray.mk #[]), Value.int IntKind.i64 0, Value.int IntKind.i64 0,
 Value.int IntKind.i64 0, Value.bool false]
 0,
 Blk.mk n_4 105 [Value.int IntKind.i64 x_4, Value.int IntKind.i64 x_5] (wrM 2)]
 w' W →
 ((∃ (u : Value), W.cell? (Addr.mk n_3 (0 + 3) none) = some u) ∧
 W.frozen? (Addr.mk n_3 (0 + 3) none) = false) ∧
 ∀ (w1 : World),
 PutB W n_3 (0 + 3)
 [Value.int IntKind.i64
 (IntKind.i64.wrap (x_6 + IntKind.i64.wrap (IntKind.i64.wrap (x_5 - x_4) + 1)))]
 w1 →
 KeptL [n_2, n, n_4] W w1 ∧
 I [Value.int IntKind.i64 (IntKind.i64.wrap (x_3 + 1))] w1 ∧
 m [Value.int IntKind.i64 (IntKind.i64.wrap (x_3 + 1))] w1 <
 m [Value.int IntKind.i64 x_3] w')
 (∃ (x_4 : ByteArray),
 ∃ (x_5 : Int),
 ∃ (x_6 : Int),
 ∃ (x_7 : Int),
 ∃ (x_8 : Bool),
 AtL w' n_3 0
 [Value.string x_4, Value.int IntKind.i64 x_5, Value.int IntKind.i64 x_6,
 Value.int IntKind.i64 x_7, Value.bool x_8] ∧
 ∀ (W : World),
 Loc w.heap.size
 [Blk.mk n_2 94 [Value.int IntKind.i64 x, Value.bool x_1, Value.slice p n_1 c] 0,
 Blk.mk n 31
 [Value.string x_4, Value.int IntKind.i64 x_5, Value.int IntKind.i64 x_6,
 Value.int IntKind.i64 x_7, Value.bool x_8]
 (wrM 0)]
 w' W →
 R
 (Ending.returned
 (Value.tuple
 #[Value.agg
 #[Value.string x_4, Value.int IntKind.i64 x_5, Value.int IntKind.i64 x_6,
 Value.int IntKind.i64 x_7, Value.bool x_8],
 Value.int IntKind.i64 0]))
 W)))
theorem vc_acget (b : Nat) (s : ByteArray) (w : World) (R : Ending → World → Prop) (h : VC_acget b s w R) : Calls Tryz.prog 16 ([Value.pointer
    (some { block := b, off := 0 }),
  Value.string s] : List Value).toArray w R := by
  have e : execR2 { P := Tryz.prog, loops := [(8, [(43, Ck.int IntKind.i64)])], pur := pur1, tails := [], joins := [], boxes := [] } Tryz.f16.results.toList R (Tryz.f16.body.getD .skip) (initF [Value.pointer
    (some { block := b, off := 0 }),
  Value.string
    s] (Tryz.f16.ntmps - ([Value.pointer (some { block := b, off := 0 }),
  Value.string s] : List Value).length)) w = VC_acget b s w R := by kernel_rfl
  have hb : Tryz.f16.body = some (Tryz.f16.body.getD .skip) := by kernel_rfl
  exact calls_of_exec2' (P := Tryz.prog) (fn := Tryz.f16) (c := Tryz.f16.body.getD .skip) (args := [Value.pointer
    (some { block := b, off := 0 }),
  Value.string s]) (w := w) (R := R) pur1_ok Tryz.func16 hb e h

def VC_acgroups (b : Nat) (w : World) (R : Ending → World → Prop) : Prop :=
 ∃ (x : Option Nat),
 w.cell? (Addr.mk b 0 none) = some (Value.map x) ∧
 ∃ (n : Nat),
 ∃ (w1 : World),
 RngP Tryz.prog 97 (Value.map x) n w w1 ∧
 KeptL [] w w1 ∧
 ∃ (I : List Value → World → Prop),
 ∃ (m : List Value → World → Nat),
 I [Value.slice none 0 0] w1 ∧
 ∀ (p : Option Addr) (n_1 c : Nat) (w' : World),
 I [Value.slice p n_1 c] w' →
 ∃ (b : Bool),
 ∃ (r : List Value),
 ∃ (w1 : World),
 NxtP Tryz.prog (Value.pointer (some (Addr.mk n 0 none))) b r w' w1 ∧
 KeptL [] w' w1 ∧
 bsp b
 (∃ (x : ByteArray),
 ∃ (x_1 : Int),
 ∃ (x_2 : Bool),
 ∃ (p_1 : Option Addr),
 ∃ (n_2 : Nat),
 ∃ (c_1 : Nat),
 EntP Tryz.prog (Value.pointer (some (Addr.mk n 0 none)))
 (Value.tuple
 #[Value.string x,
 Value.agg #[Value.int IntKind.i64 x_1, Value.bool x_2, Value.slice p_1 n_2 c_1]])
 w1 ∧
 ∀ (n : Nat) (W : World),
 Loc w.heap.size [Blk.mk n 9 [Value.string x] 2] w1 W →
 ∃ (base : Nat),
 ∃ (xs : List Value),
 W.ownsRow base 9 1 (Value.slice p n_1 c) n_1 xs ∧
 n_1 + 1 ≤ 9223372036854775807 ∧
 (n_1 + 1) * 16 ≤ 140737488355328 ∧
 base ≤ W.heap.size ∧
 ∀ (p' : Option Addr) (c' : Nat) (w'_1 : World),
 w'_1.ownsRow base 9 1 (Value.slice p' (n_1 + 1) c') (n_1 + 1)
 (xs ++ [Value.string x]) →
 W.grownBy w'_1 (Value.slice p n_1 c).ownBlock →
 AppL W p n_1 c 1 p' c' →
 KeptL [] W w'_1 ∧
 I [Value.slice p' (n_1 + 1) c'] w'_1 ∧
 m [Value.slice p' (n_1 + 1) c'] w'_1 < m [Value.slice p n_1 c] w')
 (CallsS Tryz.prog 51 #[Value.slice p n_1 c, Value.func (Fn.func 52) #[] #[]] w1
 fun (e : Ending) (w' : World) =>
 e = Ending.returned (Value.tuple #[]) ∧ KeptL [] w1 w' ∧ R (Ending.returned (Value.slice p n_1 c)) w')
theorem vc_acgroups (b : Nat) (w : World) (R : Ending → World → Prop) (h : VC_acgroups b w R) : Calls Tryz.prog 18 ([Value.pointer
    (some { block := b, off := 0 })] : List Value).toArray w R := by
  have e : execR2 { P := Tryz.prog, loops := [(5, [(3, Ck.slice)])], pur := pur1, tails := [], joins := [], boxes := [], rngs := [(11, 97)] } Tryz.f18.results.toList R (Tryz.f18.body.getD .skip) (initF [Value.pointer
    (some
      { block := b,
        off :=
          0 })] (Tryz.f18.ntmps - ([Value.pointer
    (some { block := b, off := 0 })] : List Value).length)) w = VC_acgroups b w R := by kernel_rfl
  have hb : Tryz.f18.body = some (Tryz.f18.body.getD .skip) := by kernel_rfl
  exact calls_of_exec2' (P := Tryz.prog) (fn := Tryz.f18) (c := Tryz.f18.body.getD .skip) (args := [Value.pointer
    (some { block := b, off := 0 })]) (w := w) (R := R) pur1_ok Tryz.func18 hb e h

def VC_acequal (b : Nat) (d : Nat) (w : World) (R : Ending → World → Prop) : Prop :=
 ∃ (x : Option Nat),
 (∀ (W : World), Loc w.heap.size [] w W → W.cell? (Addr.mk b 0 none) = some (Value.map x)) ∧
 ∃ (n : Int),
 (∀ (W : World), Loc w.heap.size [] w W → LenP Tryz.prog 97 (Value.map x) n W) ∧
 ∃ (x : Option Nat),
 (∀ (W : World), Loc w.heap.size [] w W → W.cell? (Addr.mk d 0 none) = some (Value.map x)) ∧
 ∃ (n_1 : Int),
 (∀ (W : World), Loc w.heap.size [] w W → LenP Tryz.prog 97 (Value.map x) n_1 W) ∧
 bsp (n != n_1) (∀ (W : World), Loc w.heap.size [] w W → R (Ending.returned (Value.bool false)) W)
 (∃ (x : Option Nat),
 (∀ (W : World), Loc w.heap.size [] w W → W.cell? (Addr.mk b 0 none) = some (Value.map x)) ∧
 ∀ (W : World),
 Loc w.heap.size [] w W →
 ∃ (n : Nat),
 ∃ (w1 : World),
 RngP Tryz.prog 97 (Value.map x) n W w1 ∧
 KeptL [] W w1 ∧
 ∃ (I : List Value → World → Prop),
 ∃ (m : List Value → World → Nat),
 I [] w1 ∧
 ∀ (w' : World),
 I [] w' →
 ∃ (b : Bool),
 ∃ (r : List Value),
 ∃ (w1 : World),
 NxtP Tryz.prog (Value.pointer (some (Addr.mk n 0 none))) b r w' w1 ∧
 KeptL [] w' w1 ∧
 bsp b
 (∃ (x : ByteArray),
 ∃ (x_1 : Int),
 ∃ (x_2 : Bool),
 ∃ (p : Option Addr),
 ∃ (n_2 : Nat),
 ∃ (c : Nat),
 EntP Tryz.prog (Value.pointer (some (Addr.mk n 0 none)))
 (Value.tuple
 #[Value.string x,
 Value.agg #[Value.int IntKind.i64 x_1, Value.bool x_2, Value.slice p n_2 c]])
 w1 ∧
 ∀ (n : Nat),
 ∃ (x_3 : Option Nat),
 (∀ (W : World),
 Loc w.heap.size
 [Blk.mk n 94 [Value.int IntKind.i64 x_1, Value.bool x_2, Value.slice p n_2 c]
 (wrM 2)]
 w1 W →
 W.cell? (Addr.mk d 0 none) = some (Value.map x_3)) ∧
 ∃ (x_4 : Int),
 ∃ (x_5 : Bool),
 ∃ (p_1 : Option Addr),
 ∃ (n_3 : Nat),
 ∃ (c_1 : Nat),
 ∃ (b : Bool),
 (∀ (W : World),
 Loc w.heap.size
 [Blk.mk n 94
 [Value.int IntKind.i64 x_1, Value.bool x_2, Value.slice p n_2 c]
 (wrM 2)]
 w1 W →
 LookP Tryz.prog 97 (Value.map x_3) (Value.string x) true
 (Value.tuple
 #[Value.agg
 #[Value.int IntKind.i64 x_4, Value.bool x_5,
 Value.slice p_1 n_3 c_1],
 Value.bool b])
 W) ∧
 ∀ (n_4 : Nat),
 ∃ (x : Int),
 gimp (!!b)
 (∀ (W : World),
 Loc w.heap.size
 [Blk.mk n_4 94
 [Value.int IntKind.i64 x_4, Value.bool x_5,
 Value.slice p_1 n_3 c_1]
 (wrM 2),
 Blk.mk n 94
 [Value.int IntKind.i64 x_1, Value.bool x_2, Value.slice p n_2 c]
 (wrM 2)]
 w1 W →
 W.cell? (Addr.mk n 0 none) = some (Value.int IntKind.i64 x)) ∧
 ∃ (x_6 : Int),
 gimp (!!b)
 (∀ (W : World),
 Loc w.heap.size
 [Blk.mk n_4 94
 [Value.int IntKind.i64 x_4, Value.bool x_5,
 Value.slice p_1 n_3 c_1]
 (wrM 2),
 Blk.mk n 94
 [Value.int IntKind.i64 x_1, Value.bool x_2, Value.slice p n_2 c]
 (wrM 2)]
 w1 W →
 W.cell? (Addr.mk n_4 0 none) = some (Value.int IntKind.i64 x_6)) ∧
 ∃ (x_7 : Bool),
 gimp (!(!b || x != x_6))
 (∀ (W : World),
 Loc w.heap.size
 [Blk.mk n_4 94
 [Value.int IntKind.i64 x_4, Value.bool x_5,
 Value.slice p_1 n_3 c_1]
 (wrM 2),
 Blk.mk n 94
 [Value.int IntKind.i64 x_1, Value.bool x_2,
 Value.slice p n_2 c]
 (wrM 2)]
 w1 W →
 W.cell? (Addr.mk n (0 + 1) none) = some (Value.bool x_7)) ∧
 ∃ (x_8 : Bool),
 gimp (!(!b || x != x_6))
 (∀ (W : World),
 Loc w.heap.size
 [Blk.mk n_4 94
 [Value.int IntKind.i64 x_4, Value.bool x_5,
 Value.slice p_1 n_3 c_1]
 (wrM 2),
 Blk.mk n 94
 [Value.int IntKind.i64 x_1, Value.bool x_2,
 Value.slice p n_2 c]
 (wrM 2)]
 w1 W →
 W.cell? (Addr.mk n_4 (0 + 1) none) = some (Value.bool x_8)) ∧
 ∃ (p_2 : Option Addr),
 ∃ (n_5 : Nat),
 ∃ (c_2 : Nat),
 gimp (!(!b || x != x_6 || !x_7 == x_8))
 (∀ (W : World),
 Loc w.heap.size
 [Blk.mk n_4 94
 [Value.int IntKind.i64 x_4, Value.bool x_5,
 Value.slice p_1 n_3 c_1]
 (wrM 2),
 Blk.mk n 94
 [Value.int IntKind.i64 x_1, Value.bool x_2,
 Value.slice p n_2 c]
 (wrM 2)]
 w1 W →
 W.cell? (Addr.mk n (0 + 2) none) =
 some (Value.slice p_2 n_5 c_2)) ∧
 ∃ (p_3 : Option Addr),
 ∃ (n_6 : Nat),
 ∃ (c_3 : Nat),
 gimp (!(!b || x != x_6 || !x_7 == x_8))
 (∀ (W : World),
 Loc w.heap.size
 [Blk.mk n_4 94
 [Value.int IntKind.i64 x_4, Value.bool x_5,
 Value.slice p_1 n_3 c_1]
 (wrM 2),
 Blk.mk n 94
 [Value.int IntKind.i64 x_1, Value.bool x_2,
 Value.slice p n_2 c]
 (wrM 2)]
 w1 W →
 W.cell? (Addr.mk n_4 (0 + 2) none) =
 some (Value.slice p_3 n_6 c_3)) ∧
 ∀ (W : World),
 Loc w.heap.size
 [Blk.mk n_4 94
 [Value.int IntKind.i64 x_4, Value.bool x_5,
 Value.slice p_1 n_3 c_1]
 (wrM 2),
 Blk.mk n 94
 [Value.int IntKind.i64 x_1, Value.bool x_2,
 Value.slice p n_2 c]
 (wrM 2)]
 w1 W →
 bsp (!(!b || x != x_6 || !x_7 == x_8))
 (CallsS Tryz.prog 59
 #[Value.slice p_2 n_5 c_2, Value.slice p_3 n_6 c_3] W
 fun (e : Ending) (w'_1 : World) =>
 ∃ (x : Bool),
 e = Ending.returned (Value.bool x) ∧
 KeptL [n_4, n] W w'_1 ∧
 bsp (false || !x)
 (R (Ending.returned (Value.bool false)) w'_1)
 (I [] w'_1 ∧ m [] w'_1 < m [] w'))
 (KeptL [n_4, n] W W ∧
 R (Ending.returned (Value.bool false)) W))
 (R (Ending.returned (Value.bool true)) w1))
theorem vc_acequal (b : Nat) (d : Nat) (w : World) (R : Ending → World → Prop) (h : VC_acequal b d w R) : Calls Tryz.prog 24 ([Value.pointer
    (some { block := b, off := 0 }),
  Value.pointer (some { block := d, off := 0 })] : List Value).toArray w R := by
  have e : execR2 { P := Tryz.prog, loops := [(6, [])], pur := pur1, tails := [], joins := [], boxes := [], rngs := [(36, 97)] } Tryz.f24.results.toList R (Tryz.f24.body.getD .skip) (initF [Value.pointer
    (some { block := b, off := 0 }),
  Value.pointer
    (some
      { block := d,
        off :=
          0 })] (Tryz.f24.ntmps - ([Value.pointer (some { block := b, off := 0 }),
  Value.pointer (some { block := d, off := 0 })] : List Value).length)) w = VC_acequal b d w R := by kernel_rfl
  have hb : Tryz.f24.body = some (Tryz.f24.body.getD .skip) := by kernel_rfl
  exact calls_of_exec2' (P := Tryz.prog) (fn := Tryz.f24) (c := Tryz.f24.body.getD .skip) (args := [Value.pointer
    (some { block := b, off := 0 }),
  Value.pointer (some { block := d, off := 0 })]) (w := w) (R := R) pur1_ok Tryz.func24 hb e h

end Go.Proofs.YtgmmoghagpmpfaaGreatDoor
