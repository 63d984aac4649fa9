/- Chapter 27: the reference's Find, Low, set, Open, Close, Numbers, Has, Neighbour. Printed by mkxa27.py. Names are not too long, lists of numbers either. -/
import Derived.Test.YtgmmoghagpmpfaaGreatDoorZ08
import Derived.Laws.StructEq
import Derived.Test.YtgmmoghagpmpfaaGreatDoorProg
import Derived.Test.YtgmmoghagpmpfaaGreatDoorZ02
import Derived.Test.YtgmmoghagpmpfaaGreatDoorZ04
import Derived.KernelRfl
namespace Go.Proofs.YtgmmoghagpmpfaaGreatDoor
open Go.RowKit Go.Sort Go.Maps

theorem srcTake27 {w : World} {p : Option Addr} {xs : List Value} (h : SrcP w p xs) (m : Nat) : SrcP w p (xs.take m) := by
  refine ⟨fun j u hj => ?_, fun u hu => h.one u (List.mem_of_mem_take hu)⟩
  rw [List.getElem?_take] at hj
  split at hj
  · exact h.cells j u hj
  · cases hj
theorem srcDrop27 {w : World} {p : Option Addr} {xs : List Value} (h : SrcP w p xs) {c i sz : Nat} (hi : xs.length ≤ c * sz) : SrcP w (slA p c i sz) (xs.drop (i * sz)) := by
  refine ⟨fun j u hj => ?_, fun u hu => h.one u (List.mem_of_mem_drop hu)⟩
  rw [List.getElem?_drop] at hj
  have hlt := (List.getElem?_eq_some_iff.1 hj).1
  have hne : ¬ c = i := fun e => by subst e; omega
  obtain ⟨b, o, hp, hc⟩ := h.cells _ u hj
  refine ⟨b, o + i * sz, ?_, by rw [Nat.add_assoc]; exact hc⟩
  unfold slA
  rw [if_neg hne, hp]
  simp [add_plain]
/-- An append, and where the row lies behind it. -/
theorem app_ownL {w0 w1 : World} {t : TypeId} {L E n c m : Nat} {p q : Option Addr} {xs news : List Value} (h0 : w1.ownsRow w0.heap.size t L (.slice p n c) n xs) (k1 : K0 w0 w1) (hm : n + m ≤ 2000001) (hE : (n + m) * E ≤ 140737488355328) (hn : news.length = m * L) (hs : SrcP w1 q news) {Q : Option Addr → Nat → World → Prop}
    (hQ : ∀ p' c' w2, w2.ownsRow w0.heap.size t L (.slice p' (n + m) c') (n + m) (xs ++ news) → K0 w0 w2 → Kp (fun k => (Value.slice p n c).ownBlock = some k) w1 w2 → AppL w1 p n c m p' c' → Q p' c' w2) :
    ∃ (base : Nat) (xs news : List Value), w1.ownsRow base t L (.slice p n c) n xs ∧ news.length = m * L ∧ SrcP w1 q news ∧ n + m ≤ 9223372036854775807 ∧ (n + m) * E ≤ 140737488355328 ∧ base ≤ w1.heap.size ∧
      ∀ (p' : Option Addr) (c' : Nat) (w' : World), w'.ownsRow base t L (.slice p' (n + m) c') (n + m) (xs ++ news) → w1.grownBy w' (Value.slice p n c).ownBlock → AppL w1 p n c m p' c' → Q p' c' w' :=
  ⟨_, _, _, h0, hn, hs, by omega, hE, k1.size, fun p' c' w' ho hg hA => hQ p' c' w' ho (k1.fresh (kp_grown hg) (fun j hj e => by have := own_ge h0 e; omega)) (kp_grown hg) hA⟩
/-- Where a name is put in. -/
theorem ins_at {β : Type} {C : ByteArray → ByteArray → Int} {l : List (ByteArray × β)} (h : KSort C l) {s : ByteArray} {v : β} {a : Nat} (hlow : ∀ (j : Nat) (y : ByteArray × β), j < a → l[j]? = some y → C y.1 s < 0) (hhi : ∀ y : ByteArray × β, l[a]? = some y → ¬ C y.1 s < 0) : insA C l s v = l.take a ++ (s, v) :: l.drop a := by
  induction l generalizing a with
  | nil => simp [insA]
  | cons x t ih =>
    cases a with
    | zero =>
      have := hhi x rfl
      unfold insA
      rw [List.takeWhile_cons_of_neg (by simpa using this), List.dropWhile_cons_of_neg (by simpa using this)]
      rfl
    | succ a =>
      have h0 := hlow 0 x (by omega) rfl
      have := ih (List.pairwise_cons.1 h).2 (a := a) (fun j y hj hy => hlow (j + 1) y (by omega) (by simpa using hy)) (fun y hy => hhi y (by simpa using hy))
      unfold insA at this ⊢
      rw [List.takeWhile_cons_of_pos (by simpa using h0), List.dropWhile_cons_of_pos (by simpa using h0), List.cons_append, this]
      rfl
/-- The reference's table in the memory, with the room of its row. -/
def RowU (w : World) (p : Option Addr) (c : Nat) (A : TA) : Prop := ∃ R, RowT w p R A ∧ A.length ≤ c
/-- A table and an error are returned. -/
def RetT (e : Ending) (w : World) (A : TA) (er : Int) : Prop := ∃ p c, e = .returned (.tuple #[.slice p A.length c, .int .i64 er]) ∧ RowU w p c A
theorem RowU.k0 {w w' : World} {p : Option Addr} {c : Nat} {A : TA} (h : RowU w p c A) (hk : K0 w w') : RowU w' p c A := by obtain ⟨R, h1, h2⟩ := h; exact ⟨R, h1.k0 hk, h2⟩
theorem RowU.tb {w w' : World} {p : Option Addr} {c : Nat} {A : TA} {B b mb : Nat} {m : TM} (h : RowU w p c A) (hz : Tz w B b mb m (fun _ => False)) (hk : Kp (Tb mb m) w w') : RowU w' p c A := by obtain ⟨R, h1, h2⟩ := h; exact ⟨R, h1.tb hz hk, h2⟩
/-- Highest numbers are not great. -/
def Sm (k : Nat) (A : TA) : Prop := ∀ p ∈ A, p.2.h ≤ (k : Int)
theorem Sm.len {k : Nat} {A : TA} (h : Sm k A) (hA : WF A) {p : ByteArray × Gv} (hp : p ∈ A) : (exI p.2.l).length ≤ k := by
  have h1 := ivs_size (hA.iv p hp) (by omega) (by have := (hA.hi p hp).1; omega)
  have := h p hp
  omega
section
variable {w : World} {p : Option Addr} {R : List Rx} {A : TA}
theorem acxfind_any (h : RowT w p R A) (hl : A.length ≤ 1000000) (c : Nat) (s : ByteArray) :
    Calls Tryz.prog 37 #[.slice p A.length c, .string s] w fun e w' => (∃ i : Int, e = .returned (.int .i64 i) ∧ ((i = -1 ∧ aget A s = none) ∨ ∃ (j : Nat) (x : Rx), i = (j : Int) ∧ R[j]? = some x ∧ x.s = s)) ∧ w' = w := by
  refine vc_acxfind p A.length c s w _ ⟨fun vs w' => ∃ i : Nat, vs = [.int .i64 (i : Int)] ∧ i ≤ A.length ∧ (∀ (j : Nat) (x : Rx), j < i → R[j]? = some x → x.s ≠ s) ∧ w' = w, fun vs _ => (match vs with | .int _ a :: _ => A.length - a.toNat | _ => 0), ⟨0, rfl, by omega, fun j x hj => by omega, rfl⟩, ?_⟩
  rintro x w1 ⟨i, hv, hi, hno, rfl⟩
  simp only [List.cons.injEq, Value.int.injEq, true_and, and_true] at hv
  subst hv
  refine bsp_intro (fun hlt => ?_) (fun hge => ?_)
  · have hlt : i < A.length := by simp at hlt; omega
    obtain ⟨y, b, o, hy, hp, hat⟩ := h.row.get (k := i) (by rw [h.len]; exact hlt)
    rw [Int.toNat_natCast]
    refine nn_is hp ⟨⟨by omega, by omega⟩, y.s, hat.cell (j := 0) rfl, bsp_intro (fun hb => ?_) (fun hb => ?_)⟩
    · rw [str_beq] at hb
      exact ⟨⟨_, rfl, .inr ⟨i, y, rfl, hy, by simpa using hb⟩⟩, rfl⟩
    · rw [str_beq] at hb
      rw [inc64 (by omega)]
      refine ⟨⟨i + 1, rfl, hlt, fun j z hj hz => ?_, rfl⟩, by simp only [Int.toNat_natCast]; omega⟩
      by_cases e : j = i
      · subst e; rw [hy] at hz; cases hz; simpa using hb
      · exact hno j z (by omega) hz
  · have hi2 : i = A.length := by simp at hge; omega
    exact ⟨⟨_, rfl, .inl ⟨rfl, h.absent fun x hx => by
      obtain ⟨j, hj⟩ := List.getElem?_of_mem hx
      exact hno j x (by have := (List.getElem?_eq_some_iff.1 hj).1; rw [h.len] at this; omega) hj⟩⟩, rfl⟩
theorem acxlow_any (x : Rx) (hR : RowN w x.q (exI x.v.l) x.d) (hiv : IvS x.v.h 1 x.v.l) (hh : 0 ≤ x.v.h ∧ x.v.h ≤ 2147483646) :
    Calls Tryz.prog 56 #[rxV x] w fun e w' => e = .returned (.int .i64 (lowI x.v)) ∧ K0 w w' := by
  refine vc_acxlow x.s x.v.h x.q (exI x.v.l).length x.d x.v.c w _ (fun n1 => bsp_intro (fun h0 W hW => ?_) (fun h0 => ?_))
  · have h0 : exI x.v.l = [] := by simpa using h0
    have hl := (exI_nil hiv).1 h0
    have e : lowI x.v = x.v.h + 1 := by unfold lowI; rw [hl]
    rw [e, wr64 (by omega) (by omega)]
    exact ⟨rfl, hW.kk rfl⟩
  · have h0 : 0 < (exI x.v.l).length := by
      have h0 : ¬ exI x.v.l = [] := by simpa using h0
      exact List.length_pos_iff.2 h0
    obtain ⟨y, b, o, hy, hp, hat⟩ := hR.row.get h0
    refine nn_is hp ⟨⟨by omega, by omega⟩, y, fun W hW => ?_, fun W hW => ⟨?_, hW.kk rfl⟩⟩
    · have := hat.cell (j := 0) rfl
      rw [Nat.zero_mul, Nat.add_zero] at this
      exact (hW.kk rfl : K0 w W).cell' this (fun h => h)
    · rw [lowI_ref hiv, List.head?_eq_getElem?, hy]
theorem acxset_any (h : RowT w p R A) (hn : A.length ≤ 1000000) {i : Nat} {x : Rx} (hx : R[i]? = some x) (y : Rx) (hy : RowN w y.q (exI y.v.l) y.d) (c : Nat) :
    Calls Tryz.prog 62 #[.slice p A.length c, .int .i64 (i : Int), rxV y] w fun e w' => (∃ p' c', e = .returned (.slice p' A.length c') ∧ RowT w' p' (R.set i y) ((R.set i y).map Rx.pr) ∧ A.length ≤ c') ∧ K0 w w' := by
  refine vc_acxset p A.length c i y.s y.v.h y.q (exI y.v.l).length y.d y.v.c w _ (fun n1 n2 W hW => ?_)
  rw [Int.toNat_natCast]
  have kW : K0 w W := hW.kk rfl
  have hil := (List.getElem?_eq_some_iff.1 hx).1
  have hlen := h.len
  have hS : SrcP W p (R.flatMap rxC) := src_rowA (h.row.k0 kW) rxC_length rxC_one (by decide)
  have hfl : (R.flatMap rxC).length = A.length * 4 := by rw [len_flat rxC 4 _ (fun y _ => rfl), hlen]
  have ha : n2 ≠ n1 := hW.apart 0 1 rfl rfl (by decide)
  have hn1 : n1 < W.heap.size := block_lt (hW.cells 1 rfl)
  have o0 : W.ownsRow w.heap.size 84 4 (.slice (some ⟨n2, 0, none⟩) 0 0) 0 [] := own_none (hW.fresh 0 rfl rfl) (hW.cells 0 rfl)
  refine app_ownL (w0 := w) (E := 56) o0 kW (by omega) (by omega) hfl hS (fun p2 c2 w2 o2 k2 g2 a2 => ?_)
  have hne : ∀ k, (Value.slice p2 (0 + A.length) c2).ownBlock = some k → k ≠ n1 := fun k hk e => by
    rcases a2.own with e2 | e2
    · rw [e2] at hk
      have := own_n39 hk
      omega
    · rw [e2] at hk
      cases hk
      omega
  rw [List.nil_append] at o2
  obtain ⟨g, hg, hwr⟩ := own_wr o2 (k := i) (by omega)
  subst hg
  have hgn : g ≠ n1 := hne g rfl
  refine ⟨.of_kp g2 (fun k hk e => ?_), nn_is rfl ⟨⟨by omega, by omega⟩, hwr, fun w3 hp3 => ⟨.of_kp hp3.kp (fun k hk e => ?_), ?_⟩⟩⟩
  · simp only [List.mem_cons, List.not_mem_nil, or_false] at hk
    have := own_n39 e
    omega
  · simp only [List.mem_cons, List.not_mem_nil, or_false] at hk
    have e : k = g := e
    omega
  · have k3 : K0 w w3 := put_k0 k2 hp3 (own_ge o2 rfl)
    have o3 := own_set (f := rxC) (y := y) o2 (by omega) rxC_length (by decide) hil hp3
    refine ⟨⟨_, c2, by rw [Nat.zero_add], ⟨RowA.own o3 rxC_length (by decide), TyN.own o3, fun z hz => ?_, rfl⟩, by have := own_le o3; omega⟩, k3⟩
    rcases List.mem_or_eq_of_mem_set hz with hz | rfl
    · exact (h.sub z hz).k0 k3
    · exact hy.k0 k3
/-- A group is set: the table. -/
theorem RowT.setU {w' : World} {p' : Option Addr} {c' j : Nat} {x y : Rx} {u : Gv} {er : Int} (h : RowT w p R A) (hwf : WF A) (hx : R[j]? = some x) (hs : y.s = x.s) (hv : y.v = u) (hT : RowT w' p' (R.set j y) ((R.set j y).map Rx.pr)) (hc : A.length ≤ c') :
    RetT (.returned (.tuple #[.slice p' A.length c', .int .i64 er])) w' (Go.Proofs.YtgmmoghagpmpfaaGreatDoor.aset A x.s u) er := by
  subst hv
  have hg := h.found hwf.dis hx
  rw [h.aset hwf.dis hx hs] at hT
  refine ⟨p', c', by rw [aset_keep hg], R.set j y, hT, by rw [aset_keep hg]; exact hc⟩
theorem acxclose_any (h : RowT w p R A) (hwf : WF A) (hn : A.length ≤ 4096) (c : Nat) (hc : A.length ≤ c) (s : ByteArray) :
    Calls Tryz.prog 54 #[.slice p A.length c, .string s] w fun e w' => RetT e w' (clA A s).1 (clA A s).2 ∧ K0 w w' := by
  refine vc_acxclose p A.length c s w _ ⟨(acxfind_any h (by omega) c s).mono fun e w1 ⟨⟨i, he, hi⟩, hw⟩ => ⟨i, he, by rw [hw]; exact .refl _ _, ?_⟩⟩
  subst hw
  unfold clA
  rcases hi with ⟨rfl, hg⟩ | ⟨j, x, rfl, hx, rfl⟩
  · rw [hg]
    exact bsp_intro (fun _ => ⟨⟨p, c, rfl, R, h, hc⟩, .refl _ _⟩) (fun hb => by simp at hb)
  · have hg := h.found hwf.dis hx
    rw [hg]
    have hjl := (List.getElem?_eq_some_iff.1 hx).1
    have hlen := h.len
    refine bsp_intro (fun hb => by simp at hb; omega) (fun _ => ?_)
    rw [Int.toNat_natCast]
    obtain ⟨y, b, o, hy, hp, hat⟩ := h.row.get hjl
    rw [hx] at hy
    cases hy
    refine nn_is hp ⟨⟨by omega, by omega⟩, x.v.c, hat.cell (j := 3) rfl, bsp_intro (fun hb => ?_) (fun hb => nn_is hp ⟨⟨by omega, by omega⟩, _, _, _, _, _, _, hat, fun n2 W hW => ?_⟩)⟩
    · have hb : x.v.c = true := hb
      simp only
      rw [if_pos hb]
      exact ⟨⟨p, c, rfl, R, h, hc⟩, .refl _ _⟩
    · have hb : x.v.c = false := hb
      simp only
      rw [if_neg (by rw [hb]; simp)]
      have kW : K0 w1 W := hW.kk rfl
      exact ⟨(acxset_any (h.k0 kW) (by omega) hx ⟨x.s, ⟨x.v.h, true, x.v.l⟩, x.q, x.d⟩ ((h.sub x (List.mem_of_getElem? hx)).k0 kW) c).mono fun e w3 ⟨⟨p', c', he, hT, hc'⟩, k3⟩ => ⟨_, _, _, he, .of_k0 k3, RowT.setU (y := ⟨x.s, ⟨x.v.h, true, x.v.l⟩, x.q, x.d⟩) h hwf hx rfl rfl hT hc', kW.trans k3⟩⟩
set_option maxRecDepth 100000 in
set_option maxHeartbeats 8000000 in
theorem acxopen_any (h : RowT w p R A) (hwf : WF A) (hn : A.length ≤ 4096) (c : Nat) (hc : A.length ≤ c) (s : ByteArray) (hs : s.size ≤ 1000000) (hsz : ∀ x ∈ R, x.s.size ≤ 1000000) :
    Calls Tryz.prog 53 #[.slice p A.length c, .string s] w fun e w' => RetT e w' (opA A s).1 (opA A s).2 ∧ K0 w w' := by
  unfold opA
  refine vc_acxopen p A.length c s w _ ⟨(xgcheck_any s w).mono fun e w0 ⟨he, k0⟩ => ⟨_, he, .of_k0 k0, bsp_intro (fun h0 => ?_) (fun h0 => ?_)⟩⟩
  · have h0 : gnE s ≠ 0 := by simpa using h0
    rw [if_pos h0]
    exact ⟨⟨p, c, rfl, R, h.k0 k0, hc⟩, k0⟩
  have h0 : gnE s = 0 := by simpa using h0
  rw [if_neg (by simpa using h0)]
  have h1 := h.k0 k0
  refine ⟨(acxfind_any h1 (by omega) c s).mono fun e w1 ⟨⟨i, he, hi⟩, hw⟩ => ⟨i, he, by rw [hw]; exact .refl _ _, ?_⟩⟩
  subst hw
  have hlen := h.len
  rcases hi with ⟨rfl, hg⟩ | ⟨j, x, rfl, hx, rfl⟩
  · rw [hg]
    simp only
    refine bsp_intro (fun hb => by simp at hb) (fun _ => bsp_intro (fun hb => ?_) (fun hb => ?_))
    · have hb : 4096 ≤ A.length := by simp at hb; omega
      rw [if_pos hb]
      exact ⟨⟨p, c, rfl, R, h1, hc⟩, k0⟩
    have hb : ¬ 4096 ≤ A.length := by simp at hb; omega
    rw [if_neg hb]
    have hfl : (R.flatMap rxC).length = A.length * 4 := by rw [len_flat rxC 4 _ (fun y _ => rfl), hlen]
    refine ⟨fun vs w' => ∃ a : Nat, vs = [.int .i64 (a : Int)] ∧ a ≤ A.length ∧ (∀ (j : Nat) (y : ByteArray × Gv), j < a → A[j]? = some y → gnC y.1 s < 0) ∧ K0 w w', fun vs _ => (match vs with | .int _ a :: _ => A.length - a.toNat | _ => 0), ⟨0, rfl, by omega, (fun j y h => by omega), k0⟩, ?_⟩
    rintro xa w2 ⟨a, hv, hao, hlow, k2⟩
    simp only [List.cons.injEq, Value.int.injEq, true_and, and_true] at hv
    subst hv
    rw [Int.toNat_natCast]
    rcases Nat.lt_or_ge a A.length with hal | hal
    · have hd : decide ((a : Int) < (A.length : Int)) = true := by simp; omega
      obtain ⟨y, b, o, hy, hpy, hat⟩ := (h.row.k0 k2).get (k := a) (by omega)
      have hyA := h.at hy
      simp only [hd]
      refine nn_is hpy ⟨gimp_intro fun _ => ⟨by omega, by omega⟩, y.s, gimp_intro fun _ => hat.cell (j := 0) rfl, bsp_intro (fun _ => ?_) (fun h => by cases h)⟩
      refine ⟨(xr12_any y.s s (hsz y (List.mem_of_getElem? hy)) hs w2).mono fun e w4 ⟨he, k4⟩ => ⟨_, he, .of_k0 k4, bsp_intro (fun h3 => ?_) (fun h3 W5 hW5 => ?_)⟩⟩
      · have h3 : gnC y.s s < 0 := by simpa using h3
        rw [inc64 (by omega)]
        refine ⟨⟨a + 1, rfl, hal, fun j z hj hz => ?_, k2.trans k4⟩, by simp only [Int.toNat_natCast]; omega⟩
        by_cases e : j = a
        · subst e; rw [hyA] at hz; cases hz; exact h3
        · exact hlow j z (by omega) hz
      have h3 : ¬ gnC y.s s < 0 := by simpa using h3
      have hhi : ∀ z : ByteArray × Gv, A[a]? = some z → ¬ gnC z.1 s < 0 := fun z hz => by rw [hyA] at hz; cases hz; exact h3
      have hW5 : K0 w W5 := (k2.trans k4).trans (hW5.kk rfl)

      have kW5 : K0 w W5 := hW5
      have hS : ∀ {wx : World}, K0 W5 wx → SrcP wx p (R.flatMap rxC) := fun k => src_rowA (h.row.k0 (kW5.trans k)) rxC_length rxC_one (by decide)
      have hT : ((R.flatMap rxC).take (a * 4)).length = a * 4 := by rw [List.length_take, hfl]; omega
      have hD : ((R.flatMap rxC).drop (a * 4)).length = (A.length - a) * 4 := by rw [List.length_drop, hfl]; omega
      have hst : ∀ {wx : World}, K0 W5 wx → SrcP wx p ((R.flatMap rxC).take (a * 4)) := fun k => srcTake27 (hS k) _
      have hsd : ∀ {wx : World}, K0 W5 wx → SrcP wx (slA p c a 4) ((R.flatMap rxC).drop (a * 4)) := fun k => srcDrop27 (hS k) (by omega)
      have hy1 : (rxC ⟨s, ⟨0, false, []⟩, none, 0⟩).length = 4 := rfl
      have hins : (insL R a ⟨s, ⟨0, false, []⟩, none, 0⟩).map Rx.pr = insA gnC A s ⟨0, false, []⟩ := by
        unfold insL
        rw [List.map_append, List.map_cons, List.map_take, List.map_drop, h.eq, ins_at (β := Gv) hwf.sort hlow hhi]
        rfl
      have eL : (insA gnC A s (⟨0, false, []⟩ : Gv)).length = 0 + a + 1 + (A.length - a) := by rw [← hins, List.length_map, insL_len (by omega), h.len]
      have fin : ∀ (p' : Option Addr) (c' : Nat) (w9 : World), w9.ownsRow W5.heap.size 84 4 (.slice p' (0 + a + 1 + (A.length - a)) c') (0 + a + 1 + (A.length - a)) ((([] ++ (R.flatMap rxC).take (a * 4)) ++ rxC ⟨s, ⟨0, false, []⟩, none, 0⟩) ++ (R.flatMap rxC).drop (a * 4)) → K0 W5 w9 →
          KeptL [] W5 w9 ∧ RetT (Ending.returned (Value.tuple #[.slice p' (0 + a + 1 + (A.length - a)) c', .int .i64 0])) w9 (insA gnC A s ⟨0, false, []⟩) 0 ∧ K0 w w9 := fun p' c' w9 o9 k9 => by
        refine ⟨.of_k0 k9, ⟨p', c', by rw [eL], ⟨insL R a ⟨s, ⟨0, false, []⟩, none, 0⟩, ⟨RowA.own (by rw [List.nil_append, insL_flat rxC 4 R a _ (fun _ => rfl)] at o9; exact o9) rxC_length (by decide), TyN.own o9, fun z hz => ?_, hins⟩, by rw [eL]; exact own_le o9⟩⟩, kW5.trans k9⟩
        rcases List.mem_cons.1 ((insL_perm R a _).mem_iff.1 hz) with rfl | hz
        · exact .nil
        · exact (h.sub z hz).k0 (kW5.trans k9)
      refine ⟨fun wx => K0 W5 wx, .refl _ _, ⟨by omega, by omega⟩, ⟨by omega, by omega⟩, ?_, ?_⟩
      · exact fun n6 w6 h6 => ⟨
          app_own (w0 := W5) (E := 56) (m := a) (own_none h6.ge h6.block) (h6.kp _) (by omega) (by omega) hT (hst (h6.kp _)) (fun p7 c7 w7 o7 k7 _ => fun n8 w8 h8 =>
            app_own (E := 56) (m := 1) (owns_kp o7 (h8.kp (fun _ => False)) (fun _ _ h => h)) (k7.trans (h8.kp _)) (by omega) (by omega) hy1 (src_block h8.block (rxC_one ⟨s, ⟨0, false, []⟩, none, 0⟩)) (fun p9 c9 w9 o9 k9 _ =>
              app_own (E := 56) (m := A.length - a) o9 k9 (by omega) (by omega) hD (hsd k9) (fun pa ca wa oa ka _ => fin pa ca wa oa ka))),
          fun n7 w7 h7 => app_own (w0 := W5) (E := 56) (m := a) (own_none h6.ge ((h7.kp (fun _ => False)).blk h6.block (fun h => h))) ((h6.kp _).trans (h7.kp _)) (by omega) (by omega) hT (hst ((h6.kp _).trans (h7.kp _))) (fun p8 c8 w8 o8 k8 g8 =>
            app_own (E := 56) (m := 1) o8 k8 (by omega) (by omega) hy1 (src_block (g8.blk h7.block (fun e => by have := own_n39 e; have := h6.size; have := h7.ge; omega)) (rxC_one ⟨s, ⟨0, false, []⟩, none, 0⟩)) (fun p9 c9 w9 o9 k9 _ =>
              app_own (E := 56) (m := A.length - a) o9 k9 (by omega) (by omega) hD (hsd k9) (fun pa ca wa oa ka _ => fin pa ca wa oa ka)))⟩
      · exact fun n6 w6 h6 n7 w7 h7 =>
          app_own (w0 := W5) (E := 56) (m := a) (own_none (Nat.le_trans (h6.kp (fun _ => False)).size h7.ge) h7.block) ((h6.kp _).trans (h7.kp _)) (by omega) (by omega) hT (hst ((h6.kp _).trans (h7.kp _))) (fun p8 c8 w8 o8 k8 g8 =>
            app_own (E := 56) (m := 1) o8 k8 (by omega) (by omega) hy1 (src_block (g8.blk ((h7.kp (fun _ => False)).blk h6.block (fun h => h)) (fun e => by have := own_n39 e; have := h6.size; have := h7.ge; omega)) (rxC_one ⟨s, ⟨0, false, []⟩, none, 0⟩)) (fun p9 c9 w9 o9 k9 _ =>
              app_own (E := 56) (m := A.length - a) o9 k9 (by omega) (by omega) hD (hsd k9) (fun pa ca wa oa ka _ => fin pa ca wa oa ka)))

    · have hd : decide ((a : Int) < (A.length : Int)) = false := by simp; omega
      simp only [hd]
      refine nn_off fun _ _ => ⟨gimp_intro (fun h => by cases h), ⟨#[]⟩, gimp_intro (fun h => by cases h), bsp_intro (fun h => by cases h) (fun _ => ⟨.refl _ _, fun W5 hW5 => ?_⟩)⟩
      have hhi : ∀ z : ByteArray × Gv, A[a]? = some z → ¬ gnC z.1 s < 0 := fun z hz => by rw [List.getElem?_eq_none (by omega)] at hz; cases hz
      have hW5 : K0 w W5 := k2.trans (hW5.kk rfl)

      have kW5 : K0 w W5 := hW5
      have hS : ∀ {wx : World}, K0 W5 wx → SrcP wx p (R.flatMap rxC) := fun k => src_rowA (h.row.k0 (kW5.trans k)) rxC_length rxC_one (by decide)
      have hT : ((R.flatMap rxC).take (a * 4)).length = a * 4 := by rw [List.length_take, hfl]; omega
      have hD : ((R.flatMap rxC).drop (a * 4)).length = (A.length - a) * 4 := by rw [List.length_drop, hfl]; omega
      have hst : ∀ {wx : World}, K0 W5 wx → SrcP wx p ((R.flatMap rxC).take (a * 4)) := fun k => srcTake27 (hS k) _
      have hsd : ∀ {wx : World}, K0 W5 wx → SrcP wx (slA p c a 4) ((R.flatMap rxC).drop (a * 4)) := fun k => srcDrop27 (hS k) (by omega)
      have hy1 : (rxC ⟨s, ⟨0, false, []⟩, none, 0⟩).length = 4 := rfl
      have hins : (insL R a ⟨s, ⟨0, false, []⟩, none, 0⟩).map Rx.pr = insA gnC A s ⟨0, false, []⟩ := by
        unfold insL
        rw [List.map_append, List.map_cons, List.map_take, List.map_drop, h.eq, ins_at (β := Gv) hwf.sort hlow hhi]
        rfl
      have eL : (insA gnC A s (⟨0, false, []⟩ : Gv)).length = 0 + a + 1 + (A.length - a) := by rw [← hins, List.length_map, insL_len (by omega), h.len]
      have fin : ∀ (p' : Option Addr) (c' : Nat) (w9 : World), w9.ownsRow W5.heap.size 84 4 (.slice p' (0 + a + 1 + (A.length - a)) c') (0 + a + 1 + (A.length - a)) ((([] ++ (R.flatMap rxC).take (a * 4)) ++ rxC ⟨s, ⟨0, false, []⟩, none, 0⟩) ++ (R.flatMap rxC).drop (a * 4)) → K0 W5 w9 →
          KeptL [] W5 w9 ∧ RetT (Ending.returned (Value.tuple #[.slice p' (0 + a + 1 + (A.length - a)) c', .int .i64 0])) w9 (insA gnC A s ⟨0, false, []⟩) 0 ∧ K0 w w9 := fun p' c' w9 o9 k9 => by
        refine ⟨.of_k0 k9, ⟨p', c', by rw [eL], ⟨insL R a ⟨s, ⟨0, false, []⟩, none, 0⟩, ⟨RowA.own (by rw [List.nil_append, insL_flat rxC 4 R a _ (fun _ => rfl)] at o9; exact o9) rxC_length (by decide), TyN.own o9, fun z hz => ?_, hins⟩, by rw [eL]; exact own_le o9⟩⟩, kW5.trans k9⟩
        rcases List.mem_cons.1 ((insL_perm R a _).mem_iff.1 hz) with rfl | hz
        · exact .nil
        · exact (h.sub z hz).k0 (kW5.trans k9)
      refine ⟨fun wx => K0 W5 wx, .refl _ _, ⟨by omega, by omega⟩, ⟨by omega, by omega⟩, ?_, ?_⟩
      · exact fun n6 w6 h6 => ⟨
          app_own (w0 := W5) (E := 56) (m := a) (own_none h6.ge h6.block) (h6.kp _) (by omega) (by omega) hT (hst (h6.kp _)) (fun p7 c7 w7 o7 k7 _ => fun n8 w8 h8 =>
            app_own (E := 56) (m := 1) (owns_kp o7 (h8.kp (fun _ => False)) (fun _ _ h => h)) (k7.trans (h8.kp _)) (by omega) (by omega) hy1 (src_block h8.block (rxC_one ⟨s, ⟨0, false, []⟩, none, 0⟩)) (fun p9 c9 w9 o9 k9 _ =>
              app_own (E := 56) (m := A.length - a) o9 k9 (by omega) (by omega) hD (hsd k9) (fun pa ca wa oa ka _ => fin pa ca wa oa ka))),
          fun n7 w7 h7 => app_own (w0 := W5) (E := 56) (m := a) (own_none h6.ge ((h7.kp (fun _ => False)).blk h6.block (fun h => h))) ((h6.kp _).trans (h7.kp _)) (by omega) (by omega) hT (hst ((h6.kp _).trans (h7.kp _))) (fun p8 c8 w8 o8 k8 g8 =>
            app_own (E := 56) (m := 1) o8 k8 (by omega) (by omega) hy1 (src_block (g8.blk h7.block (fun e => by have := own_n39 e; have := h6.size; have := h7.ge; omega)) (rxC_one ⟨s, ⟨0, false, []⟩, none, 0⟩)) (fun p9 c9 w9 o9 k9 _ =>
              app_own (E := 56) (m := A.length - a) o9 k9 (by omega) (by omega) hD (hsd k9) (fun pa ca wa oa ka _ => fin pa ca wa oa ka)))⟩
      · exact fun n6 w6 h6 n7 w7 h7 =>
          app_own (w0 := W5) (E := 56) (m := a) (own_none (Nat.le_trans (h6.kp (fun _ => False)).size h7.ge) h7.block) ((h6.kp _).trans (h7.kp _)) (by omega) (by omega) hT (hst ((h6.kp _).trans (h7.kp _))) (fun p8 c8 w8 o8 k8 g8 =>
            app_own (E := 56) (m := 1) o8 k8 (by omega) (by omega) hy1 (src_block (g8.blk ((h7.kp (fun _ => False)).blk h6.block (fun h => h)) (fun e => by have := own_n39 e; have := h6.size; have := h7.ge; omega)) (rxC_one ⟨s, ⟨0, false, []⟩, none, 0⟩)) (fun p9 c9 w9 o9 k9 _ =>
              app_own (E := 56) (m := A.length - a) o9 k9 (by omega) (by omega) hD (hsd k9) (fun pa ca wa oa ka _ => fin pa ca wa oa ka)))

  · have hg := h.found hwf.dis hx
    rw [hg]
    simp only
    have hjl := (List.getElem?_eq_some_iff.1 hx).1
    refine bsp_intro (fun _ => ?_) (fun hb => by simp at hb)
    rw [Int.toNat_natCast]
    obtain ⟨y, b, o, hy, hp, hat⟩ := h1.row.get hjl
    rw [hx] at hy
    cases hy
    refine nn_is hp ⟨⟨by omega, by omega⟩, x.v.c, hat.cell (j := 3) rfl, bsp_intro (fun hb => ?_) (fun hb => nn_is hp ⟨⟨by omega, by omega⟩, _, _, _, _, _, _, hat, fun n2 W hW => ?_⟩)⟩
    · have hb : x.v.c = false := by simpa using hb
      rw [if_pos hb]
      exact ⟨⟨p, c, rfl, R, h1, hc⟩, k0⟩
    · have hb : ¬ x.v.c = false := by simpa using hb
      rw [if_neg hb]
      have kW : K0 w W := hW.k0 k0
      exact ⟨(acxset_any (h.k0 kW) (by omega) hx ⟨x.s, ⟨x.v.h, false, x.v.l⟩, x.q, x.d⟩ ((h.sub x (List.mem_of_getElem? hx)).k0 kW) c).mono fun e w3 ⟨⟨p', c', he, hT, hc'⟩, k3⟩ => ⟨_, _, _, he, .of_k0 k3, RowT.setU (y := ⟨x.s, ⟨x.v.h, false, x.v.l⟩, x.q, x.d⟩) h hwf hx rfl rfl hT hc', kW.trans k3⟩⟩
set_option maxHeartbeats 1000000 in
theorem acxnums_any (x : Rx) (hR : RowN w x.q (exI x.v.l) x.d) (hl : (exI x.v.l).length ≤ 1000000) (u v : Int) :
    Calls Tryz.prog 40 #[rxV x, .int .i64 u, .int .i64 v] w fun e w' => (∃ q d, e = .returned (.slice q ((exI x.v.l).filter fun k => decide (u ≤ k ∧ k ≤ v)).length d) ∧ w'.ownsRow w.heap.size 3 1 (.slice q ((exI x.v.l).filter fun k => decide (u ≤ k ∧ k ≤ v)).length d) ((exI x.v.l).filter fun k => decide (u ≤ k ∧ k ≤ v)).length (((exI x.v.l).filter fun k => decide (u ≤ k ∧ k ≤ v)).flatMap inC)) ∧ K0 w w' := by
  rw [show rxV x = .agg #[.string x.s, .int .i64 x.v.h, .slice x.q (exI x.v.l).length x.d, .bool x.v.c] from rfl]
  generalize hL : exI x.v.l = L at *
  refine vc_acxnums x.s x.v.h x.q L.length x.d x.v.c u v w _ (fun n1 W hW => ?_)
  have kW : K0 w W := hW.kk rfl
  refine ⟨fun vs w' => ∃ (i : Nat) (q : Option Addr) (d : Nat), vs = [.int .i64 (i : Int), .slice q ((L.take i).filter fun k => decide (u ≤ k ∧ k ≤ v)).length d] ∧ i ≤ L.length ∧ w'.ownsRow w.heap.size 3 1 (.slice q ((L.take i).filter fun k => decide (u ≤ k ∧ k ≤ v)).length d) ((L.take i).filter fun k => decide (u ≤ k ∧ k ≤ v)).length (((L.take i).filter fun k => decide (u ≤ k ∧ k ≤ v)).flatMap inC) ∧ K0 w w',
    fun vs _ => (match vs with | .int _ a :: _ => L.length - a.toNat | _ => 0), ⟨0, none, 0, rfl, by omega, World.ownsRow_nil _ _ _ _, kW⟩, ?_⟩
  rintro xi p1 n2 c1 w3 ⟨i, q, d, hv, hi, ho, k3⟩ hL3
  simp only [List.cons.injEq, Value.slice.injEq, Value.int.injEq, true_and, and_true] at hv
  obtain ⟨rfl, rfl, rfl, rfl⟩ := hv
  have hc1 := hL3.cells 0 rfl
  refine bsp_intro (fun hlt => ?_) (fun hge => ?_)
  · have hlt : i < L.length := by simp at hlt; omega
    obtain ⟨y, b, o, hy, hp, hat⟩ := (hR.row.k0 k3).get hlt
    rw [Nat.mul_one] at hat
    have hcl := hat.cell (j := 0) rfl
    rw [Nat.add_zero] at hcl
    rw [Int.toNat_natCast]
    have hm : ((L.take i).filter fun k => decide (u ≤ k ∧ k ≤ v)).length ≤ i := Nat.le_trans (List.length_filter_le _ _) (by rw [List.length_take]; omega)
    have htk := take_snoc hy
    refine nn_is hp ⟨⟨by omega, by omega⟩, y, hcl, x.q, L.length, x.d, gimp_intro fun _ => cell_at hc1 rfl, nn_is hp ⟨gimp_intro fun _ => ⟨by omega, by omega⟩, y, gimp_intro fun _ => hcl, bsp_intro (fun hb => nn_is hp ⟨⟨by omega, by omega⟩, y, hcl, fun n4 W4 hW4 => ?_⟩) (fun hb => ?_)⟩⟩
    · have hb : u ≤ y ∧ y ≤ v := by simpa using hb
      have k34 : K0 w3 W4 := hW4.kk rfl
      have hf : (L.take (i + 1)).filter (fun k => decide (u ≤ k ∧ k ≤ v)) = (L.take i).filter (fun k => decide (u ≤ k ∧ k ≤ v)) ++ [y] := by
        rw [htk, List.filter_append, List.filter_cons_of_pos (by simpa using hb)]; rfl
      refine ⟨_, _, owns_kp ho k34 (fun _ _ h => h), by omega, by omega, (k3.trans k34).size, fun p' c' w5 ho5 hg5 _ => ?_⟩
      have kg := kp_grown hg5
      have k5 : K0 w w5 := (k3.trans k34).fresh kg (fun j hj e => by have := own_ge ho e; omega)
      rw [inc64 (by omega)]
      refine ⟨.of_kp kg (fun k hk e => ?_), ⟨i + 1, p', c', by rw [hf]; simp, hlt, ?_, k5⟩, by simp only [Int.toNat_natCast]; omega⟩
      · simp only [List.mem_cons, List.not_mem_nil, or_false] at hk
        subst hk
        exact own_not (owns_kp ho k34 (fun _ _ h => h)) (k34.blk hc1 (fun h => h)) rfl e
      · rw [hf, List.length_append, List.flatMap_append]; exact ho5
    · have hb : ¬ (u ≤ y ∧ y ≤ v) := by simpa using hb
      have hf : (L.take (i + 1)).filter (fun k => decide (u ≤ k ∧ k ≤ v)) = (L.take i).filter (fun k => decide (u ≤ k ∧ k ≤ v)) := by
        rw [htk, List.filter_append, List.filter_cons_of_neg (by simpa using hb)]; simp
      rw [inc64 (by omega)]
      refine ⟨⟨i + 1, p1, c1, by rw [hf], hlt, ?_, k3⟩, by simp only [Int.toNat_natCast]; omega⟩
      rw [hf]; exact ho
  · have hi2 : i = L.length := by simp at hge; omega
    subst hi2
    rw [List.take_length] at ho ⊢
    exact ⟨⟨p1, c1, rfl, ho⟩, k3⟩
theorem acxhas_any (h : RowT w p R A) (hwf : WF A) (hn : A.length ≤ 4096) (hsm : Sm 1000000 A) (c : Nat) (s : ByteArray) (v : Int) :
    Calls Tryz.prog 41 #[.slice p A.length c, .string s, .int .i64 v] w fun e w' => e = .returned (.bool (match aget A s with | some g => hasI g.l v | none => false)) ∧ K0 w w' := by
  refine vc_acxhas p A.length c s v w _ ⟨(acxfind_any h (by omega) c s).mono fun e w1 ⟨⟨i, he, hi⟩, hw⟩ => ⟨i, he, by rw [hw]; exact .refl _ _, ?_⟩⟩
  subst hw
  have hlen := h.len
  rcases hi with ⟨rfl, hg⟩ | ⟨j, x, rfl, hx, rfl⟩
  · rw [hg]
    exact bsp_intro (fun _ => ⟨rfl, .refl _ _⟩) (fun hb => by simp at hb)
  · have hg := h.found hwf.dis hx
    rw [hg]
    have hjl := (List.getElem?_eq_some_iff.1 hx).1
    refine bsp_intro (fun hb => by simp at hb; omega) (fun _ => ?_)
    rw [Int.toNat_natCast]
    obtain ⟨y, b, o, hy, hp, hat⟩ := h.row.get hjl
    rw [hx] at hy
    cases hy
    have hiv := (hwf.get hg).2.2.2
    refine nn_is hp ⟨⟨by omega, by omega⟩, _, _, _, _, _, _, hat, ⟨(acxnums_any x (h.sub x (List.mem_of_getElem? hx)) (hsm.len hwf (aget_mem hg)) v v).mono fun e w3 ⟨⟨q, d, he, ho⟩, k3⟩ => ⟨_, _, _, he, .of_k0 k3, ?_, k3⟩⟩⟩
    congr 2
    rw [Bool.eq_iff_iff, hasI_mem, ← has_ref (exI_sort hiv)]
    simp only [beq_iff_eq]
    omega
set_option maxHeartbeats 1000000 in
theorem acxnbr_any (x : Rx) (hR : RowN w x.q (exI x.v.l) x.d) (hl : (exI x.v.l).length ≤ 2147483646) (hiv : IvS x.v.h 1 x.v.l) (v : Int) (fw : Bool) :
    Calls Tryz.prog 38 #[rxV x, .int .i64 v, .bool fw] w fun e w' => (∃ r, e = .returned (.int .i64 r) ∧ (fw = true → IsNext (exI x.v.l) v r) ∧ (fw = false → IsPrev (exI x.v.l) v r)) ∧ K0 w w' := by
  have hso := exI_sort hiv
  have h1 : ∀ k ∈ exI x.v.l, 1 ≤ k := fun k hk => (hiv.exI hk).1
  rw [show rxV x = .agg #[.string x.s, .int .i64 x.v.h, .slice x.q (exI x.v.l).length x.d, .bool x.v.c] from rfl]
  generalize hL : exI x.v.l = L at *
  refine vc_acxnbr x.s x.v.h x.q L.length x.d x.v.c v fw w _ (fun n1 W hW => ?_)
  have kW : K0 w W := hW.kk rfl
  refine ⟨fun vs w' => ∃ (i : Nat) (r : Int), vs = [.int .i64 (i : Int), .int .i64 r] ∧ i ≤ L.length ∧ (fw = true → IsNext (L.take i) v r) ∧ (fw = false → IsPrev (L.take i) v r) ∧ K0 w w',
    fun vs _ => (match vs with | .int _ a :: _ => L.length - a.toNat | _ => 0), ⟨0, 0, rfl, by omega, fun _ => .inr ⟨rfl, fun k hk => by simp at hk⟩, fun _ => .inr ⟨rfl, fun k hk => by simp at hk⟩, kW⟩, ?_⟩
  rintro xi xr w3 ⟨i, r, hv, hi, hN, hP, k3⟩ hL3
  simp only [List.cons.injEq, Value.int.injEq, true_and, and_true] at hv
  obtain ⟨rfl, rfl⟩ := hv
  refine bsp_intro (fun hlt => ?_) (fun hge => ?_)
  · have hlt : i < L.length := by simp at hlt; omega
    obtain ⟨y, b, o, hy, hp, hat⟩ := (hR.row.k0 k3).get hlt
    rw [Nat.mul_one] at hat
    have hcl := hat.cell (j := 0) rfl
    rw [Nat.add_zero] at hcl
    rw [Int.toNat_natCast]
    have htk := take_snoc hy
    have hlo : ∀ k ∈ L.take i, k < y := fun k hk => by
      obtain ⟨j, hj⟩ := List.getElem?_of_mem hk
      rw [List.getElem?_take] at hj
      split at hj
      · rename_i hji
        obtain ⟨hl1, e1⟩ := List.getElem?_eq_some_iff.1 hj
        obtain ⟨hl2, e2⟩ := List.getElem?_eq_some_iff.1 hy
        have := List.pairwise_iff_getElem.1 hso j i hl1 hl2 hji
        rw [e1, e2] at this
        exact this
      · cases hj
    have h1t : ∀ k ∈ L.take i, 1 ≤ k := fun k hk => h1 k (List.mem_of_mem_take hk)
    have hN2 : fw = true → IsNext (L.take (i + 1)) v (if v < y ∧ xr = 0 then y else xr) := fun hf => by rw [htk]; exact (hN hf).snoc hlo h1t
    have hP2 : fw = false → IsPrev (L.take (i + 1)) v (if y < v then y else xr) := fun hf => by rw [htk]; exact (hP hf).snoc hlo
    refine nn_is hp ⟨⟨by omega, by omega⟩, y, hcl, bsp_intro (fun hb => ?_) (fun hb => ?_)⟩
    · rw [inc64 (by omega)]
      refine ⟨⟨i + 1, y, rfl, hlt, fun hf => ?_, fun hf => ?_, k3⟩, by simp only [Int.toNat_natCast]; omega⟩
      · have := hN2 hf
        rw [hf] at hb
        rwa [if_pos (by simpa using hb)] at this
      · have := hP2 hf
        rw [hf] at hb
        rwa [if_pos (by simpa using hb)] at this
    · rw [inc64 (by omega)]
      refine ⟨⟨i + 1, xr, rfl, hlt, fun hf => ?_, fun hf => ?_, k3⟩, by simp only [Int.toNat_natCast]; omega⟩
      · have := hN2 hf
        rw [hf] at hb
        rwa [if_neg (by simpa using hb)] at this
      · have := hP2 hf
        rw [hf] at hb
        rwa [if_neg (by simpa using hb)] at this
  · have hi2 : i = L.length := by simp at hge; omega
    subst hi2
    rw [List.take_length] at hN hP
    exact ⟨⟨xr, rfl, hN, hP⟩, k3⟩
end

end Go.Proofs.YtgmmoghagpmpfaaGreatDoor

/- Chapter 27: the reference's Remove and Assign. Names are not too long, lists of numbers either. -/
namespace Go.Proofs.YtgmmoghagpmpfaaGreatDoor
open Go.RowKit Go.Sort Go.Maps

/-- A table, numbers and an error are returned. -/
def RetA (e : Ending) (w : World) (A : TA) (N : List Int) (er : Int) : Prop := ∃ p c q d, e = .returned (.tuple #[.slice p A.length c, .slice q N.length d, .int .i64 er]) ∧ RowU w p c A ∧ RowN w q N d
theorem inC_src {w : World} {q : Option Addr} {l : List Int} (h : RowA inC 1 w q l) : SrcP w q (l.flatMap inC) := src_rowA h inC_length inC_one (by decide)
theorem inC_flat (l : List Int) : (l.flatMap inC).length = l.length * 1 := len_flat inC 1 l (fun _ _ => rfl)
section
variable {w : World} {p : Option Addr} {R : List Rx} {A : TA}
set_option maxHeartbeats 2000000 in
theorem acxremove_any (h : RowT w p R A) (hwf : WF A) (hn : A.length ≤ 4096) (hsm : Sm 1000000 A) (c : Nat) (hc : A.length ≤ c) (s : ByteArray) (v : Int) :
    Calls Tryz.prog 55 #[.slice p A.length c, .string s, .int .i64 v] w fun e w' => RetT e w' (rmA A s v).1 (rmA A s v).2 ∧ K0 w w' := by
  refine vc_acxremove p A.length c s v w _ ⟨(acxhas_any h hwf hn hsm c s v).mono fun e w1 ⟨he, k1⟩ => ⟨_, he, .of_k0 k1, bsp_intro (fun hb => ?_) (fun hb => ?_)⟩⟩
  · have : rmA A s v = (A, 8) := by
      unfold rmA
      cases hg : aget A s with
      | none => rfl
      | some g =>
        rw [hg] at hb
        simp only
        rw [if_neg (by simpa using hb)]
    rw [this]
    exact ⟨⟨p, c, rfl, R, h.k0 k1, hc⟩, k1⟩
  have h1 := h.k0 k1
  refine ⟨(acxfind_any h1 (by omega) c s).mono fun e w2 ⟨⟨i, he, hi⟩, hw⟩ => ⟨i, he, by rw [hw]; exact .refl _ _, ?_⟩⟩
  subst hw
  rcases hi with ⟨rfl, hg⟩ | ⟨j, x, rfl, hx, rfl⟩
  · rw [hg] at hb; simp at hb
  have hg := h.found hwf.dis hx
  rw [hg] at hb
  have hb : hasI x.v.l v = true := by simpa using hb
  obtain ⟨_, hh0, hh1, hiv⟩ := hwf.get hg
  have hvr := hiv.exI (hasI_mem.1 hb)
  have hre : rmA A x.s v = (aset A x.s ⟨x.v.h, x.v.c, remI x.v.l v⟩, 0) := by unfold rmA; rw [hg]; simp only; rw [if_pos hb]
  rw [hre, Int.toNat_natCast, wr64 (x := v - 1) (by omega) (by omega), wr64 (x := v + 1) (by omega) (by omega)]
  have hjl := (List.getElem?_eq_some_iff.1 hx).1
  have hlen := h.len
  have hmx := List.mem_of_getElem? hx
  obtain ⟨y, b, o, hy, hp, hat⟩ := h1.row.get hjl
  rw [hx] at hy
  cases hy
  have hsub := h1.sub x hmx
  have hle : (exI x.v.l).length ≤ 1000000 := hsm.len hwf (aget_mem hg)
  refine nn_is hp ⟨⟨by omega, by omega⟩, _, _, _, _, _, _, hat, fun n2 W hW => ⟨fun w' => K0 W w', .refl _ _, nn_is hp ⟨⟨by omega, by omega⟩, _, _, _, _, _, _, fun w' k => hat.k0 ((hW.kk rfl : K0 w2 W).trans k), nn_is hp ⟨⟨by omega, by omega⟩, _, _, _, _, _, _, fun w' k => hat.k0 ((hW.kk rfl : K0 w2 W).trans k), ?_⟩⟩⟩⟩
  have kW : K0 w2 W := hW.kk rfl
  refine ⟨(acxnums_any x (hsub.k0 kW) hle 0 (v - 1)).mono fun e w3 ⟨⟨q1, d1, he, o1⟩, k3⟩ => ⟨_, _, _, he, k3, ⟨(acxnums_any x (hsub.k0 (kW.trans k3)) hle (v + 1) 2147483646).mono fun e w4 ⟨⟨q2, d2, he, o2⟩, k4⟩ => ⟨_, _, _, he, ?_⟩⟩⟩⟩
  have hE : exI (remI x.v.l v) = (exI x.v.l).filter (fun k => decide (0 ≤ k ∧ k ≤ v - 1)) ++ (exI x.v.l).filter (fun k => decide (v + 1 ≤ k ∧ k ≤ 2147483646)) := by
    rw [exI_rem hiv, rem_ref (exI_sort hiv) (fun k hk => by have := hiv.exI hk; omega)]
  have l1 := List.length_filter_le (fun k => decide (0 ≤ k ∧ k ≤ v - 1)) (exI x.v.l)
  have l2 := List.length_filter_le (fun k => decide (v + 1 ≤ k ∧ k ≤ 2147483646)) (exI x.v.l)
  generalize hF1 : (exI x.v.l).filter (fun k => decide (0 ≤ k ∧ k ≤ v - 1)) = F1 at *
  generalize hF2 : (exI x.v.l).filter (fun k => decide (v + 1 ≤ k ∧ k ≤ 2147483646)) = F2 at *
  have hcn : W.heap[n2]? = some (.cells #[.string x.s, .int .i64 x.v.h, .slice x.q (exI x.v.l).length x.d, .bool x.v.c] 84 (0, 0)) := hW.cells 0 rfl
  have hnl := block_lt hcn
  have hng : w2.heap.size ≤ n2 := hW.fresh 0 rfl rfl
  have o1' : w4.ownsRow W.heap.size 3 1 (.slice q1 F1.length d1) F1.length (F1.flatMap inC) := owns_kp o1 k4 (fun _ _ h => h)
  refine app_ownL (w0 := W) (E := 8) o1' (k3.trans k4) (by omega) (by omega) (inC_flat F2) (inC_src (RowA.own o2 inC_length (by decide))) (fun p5 c5 w5 o5 k5 g5 a5 => ?_)
  have hc5 := k5.blk hcn (fun h => h)
  refine ⟨cell_wr hc5 (by show 0 + 2 < 4; omega), fun w6 hput => ⟨.of_kp ((k5.mono fun _ _ e => e.elim).trans hput.kp) (fun n hn => by cases hn), x.s, x.v.h, p5, F1.length + F2.length, c5, x.v.c, AtL_block (hput.block hc5) rfl, ?_⟩⟩
  have k06 : K0 w2 w6 := put_k0 (kW.trans k5) hput hng
  have o6 : w6.ownsRow W.heap.size 3 1 (.slice p5 (F1 ++ F2).length c5) (F1 ++ F2).length ((F1 ++ F2).flatMap inC) := owns_kp (by rw [List.length_append, List.flatMap_append]; exact o5) hput.kp (fun k hk e => by
    have e : k = n2 := e
    have := own_ge o5 (k := k) (by rw [List.length_append] at hk; exact hk)
    omega)
  have hrow : RowN w6 p5 (exI (remI x.v.l v)) c5 := by rw [hE]; exact RowN.own o6
  have hcall := acxset_any (h1.k0 k06) (by omega) hx ⟨x.s, ⟨x.v.h, x.v.c, remI x.v.l v⟩, p5, c5⟩ hrow c
  rw [show rxV ⟨x.s, ⟨x.v.h, x.v.c, remI x.v.l v⟩, p5, c5⟩ = .agg #[.string x.s, .int .i64 x.v.h, .slice p5 (F1.length + F2.length) c5, .bool x.v.c] by
    show Value.agg #[.string x.s, .int .i64 x.v.h, .slice p5 (exI (remI x.v.l v)).length c5, .bool x.v.c] = _
    rw [hE, List.length_append]] at hcall
  exact ⟨hcall.mono fun e w7 ⟨⟨p', c', he, hT, hc'⟩, k7⟩ => ⟨_, _, _, he, .of_k0 k7, RowT.setU (y := ⟨x.s, ⟨x.v.h, x.v.c, remI x.v.l v⟩, p5, c5⟩) h hwf hx rfl rfl hT hc', (k1.trans k06).trans k7⟩⟩
theorem asR_err {l : List ByteArray} {e : Int} (h0 : ¬ l.length = 0) (hnd : l.Nodup) (he : asE A l = e) (hne : e ≠ 0) : asR A l = (A, [], e) := by
  unfold asR
  rw [if_neg h0, if_neg (by simpa using hnd), if_pos (by rw [he]; exact hne), he]
theorem asE_at {l : List ByteArray} {i : Nat} {s : ByteArray} {e : Int} (hs : l[i]? = some s) (hE : asE A (l.take i) = 0) (he : (match aget A s with | some v => if v.c = true then 10 else if 2147483646 ≤ v.h then 9 else 0 | none => 8) = e) (hne : e ≠ 0) : asE A l = e := by
  have h1 := (asE_snoc (A := A) (s := s) hE).trans he
  rw [← take_snoc hs] at h1
  have h2 := asE_app (A := A) (r := l.take (i + 1)) (q := l.drop (i + 1)) (by rw [h1]; exact hne)
  rw [List.take_append_drop] at h2
  rw [h2, h1]
theorem RowN.kpD {w' : World} {q : Option Addr} {l : List Int} {d : Nat} {M : Nat → Prop} (h : RowN w q l d) (hk : Kp M w w') (hm : ∀ g o, q = some ⟨g, o, none⟩ → ¬ M g) : RowN w' q l d :=
  ⟨fun k y hy => by
    obtain ⟨b, o, h1, h2⟩ := h.row k y hy
    exact ⟨b, o, h1, ⟨At_of _ _ fun j u hu => hk.cell' (h2.cell hu) (hm b o h1)⟩⟩, fun g o e => by
    obtain ⟨c, f, hc⟩ := h.ty g o e
    exact ⟨c, f, hk.blk hc (hm g o e)⟩, h.le⟩
theorem RowT.kpD {w' : World} {M : Nat → Prop} (h : RowT w p R A) (hk : Kp M w w') (hG : ∀ k c f, w.heap[k]? = some (.cells c 84 f) → ¬ M k) (hN : ∀ z ∈ R, ∀ g o, z.q = some ⟨g, o, none⟩ → ¬ M g) : RowT w' p R A :=
  ⟨h.row.kpT h.ty hk hG, h.ty.kp hk hG, fun z hz => (h.sub z hz).kpD hk (hN z hz), h.eq⟩
def axI (w : World) (A : TA) (l : List ByteArray) (vs : List Value) (w' : World) : Prop := ∃ (i : Nat) (q1 : Option Addr) (d1 : Nat) (p2 : Option Addr) (c2 : Nat) (R2 : List Rx), vs = [.int .i64 (i : Int), .slice q1 (asN A (l.take i)).length d1, .slice p2 A.length c2] ∧ i ≤ l.length ∧ asE A (l.take i) = 0 ∧ RowT w' p2 R2 (asS A (l.take i)) ∧ A.length ≤ c2 ∧ (∀ z ∈ R2, ∀ g o, z.q = some ⟨g, o, none⟩ → ∀ k, (Value.slice q1 (asN A (l.take i)).length d1).ownBlock = some k → k ≠ g) ∧ w'.ownsRow w.heap.size 3 1 (.slice q1 (asN A (l.take i)).length d1) (asN A (l.take i)).length ((asN A (l.take i)).flatMap inC) ∧ K0 w w'
set_option maxRecDepth 100000 in
set_option maxHeartbeats 8000000 in
theorem acxassign_any (h : RowT w p R A) (hwf : WF A) (hn : A.length ≤ 4096) (hsm : Sm 1000000 A) (c : Nat) (hc : A.length ≤ c) (l : List ByteArray) (q : Option Addr) (d : Nat) (hS : StrP w q l) (hl : l.length ≤ 1000) :
    Calls Tryz.prog 29 #[.slice p A.length c, .slice q l.length d] w fun e w' => RetA e w' (asR A l).1 (asR A l).2.1 (asR A l).2.2 ∧ K0 w w' := by
  have hlenR := h.len
  refine vc_acxassign p A.length c q l.length d w _ (bsp_intro (fun h0 => ?_) (fun h0 => ?_))
  · have h0 : l.length = 0 := by simp at h0; simp [h0]
    have : asR A l = (A, [], 1) := by unfold asR; rw [if_pos h0]
    rw [this]
    exact ⟨⟨p, c, none, 0, rfl, ⟨R, h, hc⟩, .nil⟩, .refl _ _⟩
  have h0 : ¬ l.length = 0 := by intro e; rw [e] at h0; simp at h0
  refine ⟨fun vs w' => ∃ i : Nat, vs = [.int .i64 (i : Int)] ∧ i ≤ l.length ∧ (l.take i).Nodup ∧ K0 w w', fun vs _ => (match vs with | .int _ a :: _ => l.length - a.toNat | _ => 0), ⟨0, rfl, by omega, List.nodup_nil, .refl _ _⟩, ?_⟩
  rintro xi w1 ⟨i, hv, hi, hnd, k1⟩
  simp only [List.cons.injEq, Value.int.injEq, true_and, and_true] at hv
  subst hv
  refine bsp_intro (fun hlt => ?_) (fun hge => ?_)
  · have hlt : i < l.length := by simp at hlt; omega
    obtain ⟨s, sb, so, hs, hp, hcs⟩ := hS.get hlt
    refine ⟨fun vs w' => ∃ k : Nat, vs = [.int .i64 (k : Int)] ∧ k ≤ i ∧ (∀ (j : Nat) (t : ByteArray), j < k → l[j]? = some t → t ≠ s) ∧ K0 w w', fun vs _ => (match vs with | .int _ a :: _ => i - a.toNat | _ => 0), ⟨0, rfl, by omega, fun j t hj => by omega, k1⟩, ?_⟩
    rintro xk w2 ⟨k, hv, hk, hno, k2⟩
    simp only [List.cons.injEq, Value.int.injEq, true_and, and_true] at hv
    subst hv
    rw [Int.toNat_natCast, Int.toNat_natCast]
    refine bsp_intro (fun hlt2 => ?_) (fun hge2 => ?_)
    · have hlt2 : k < i := by simp at hlt2; omega
      obtain ⟨t, tb, to1, ht, hp', hct⟩ := hS.get (k := k) (by omega)
      rw [hp] at hp'
      cases hp'
      refine nn_is hp ⟨⟨by omega, by omega⟩, s, fun W hW => (k2.trans (hW.kk rfl)).cell' hcs (fun h => h), nn_is hp ⟨⟨by omega, by omega⟩, t, fun W hW => (k2.trans (hW.kk rfl)).cell' hct (fun h => h), bsp_intro (fun hb W hW => ?_) (fun hb W hW => ?_)⟩⟩
      · rw [str_beq] at hb
        have hb : s = t := by simpa using hb
        subst hb
        have hnn : ¬ l.Nodup := fun hn => by
          obtain ⟨h1, e1⟩ := List.getElem?_eq_some_iff.1 hs
          obtain ⟨h2, e2⟩ := List.getElem?_eq_some_iff.1 ht
          exact List.pairwise_iff_getElem.1 hn k i h2 h1 hlt2 (by rw [e1, e2])
        have : asR A l = (A, [], 7) := by unfold asR; rw [if_neg h0, if_pos hnn]
        rw [this]
        have kk := k2.trans (hW.kk rfl : K0 w2 W)
        exact ⟨⟨p, c, none, 0, rfl, ⟨R, h.k0 kk, hc⟩, .nil⟩, kk⟩
      · rw [str_beq] at hb
        have hb : ¬ s = t := by simpa using hb
        rw [inc64 (by omega)]
        refine ⟨⟨k + 1, rfl, hlt2, fun j z hj hz => ?_, k2.trans (hW.kk rfl)⟩, by simp only [Int.toNat_natCast]; omega⟩
        by_cases e : j = k
        · subst e; rw [ht] at hz; cases hz; exact fun e => hb e.symm
        · exact hno j z (by omega) hz
    · have hk2 : k = i := by simp at hge2; omega
      subst hk2
      rw [inc64 (by omega)]
      refine ⟨⟨k + 1, rfl, hlt, ?_, k2⟩, by simp only [Int.toNat_natCast]; omega⟩
      rw [take_snoc hs, List.nodup_append]
      refine ⟨hnd, by simp, fun a ha b hb e => ?_⟩
      rw [List.mem_singleton.1 hb] at e
      obtain ⟨j, hj⟩ := List.getElem?_of_mem ha
      rw [List.getElem?_take] at hj
      split at hj
      · rename_i hjk
        exact hno j a hjk hj e
      · cases hj
  have hi2 : i = l.length := by simp at hge; omega
  subst hi2
  rw [List.take_length] at hnd
  refine ⟨axI w A l, fun vs _ => (match vs with | .int _ a :: _ => l.length - a.toNat | _ => 0), ⟨0, none, 0, p, c, R, rfl, by omega, rfl, h.k0 k1, hc, (fun z _ g o _ k e => by cases e), World.ownsRow_nil _ _ _ _, k1⟩, ?_⟩
  rintro x1 p1 n1 c1 p2 n2 c2 w2 ⟨i, q1, d1, p2', c2', R2, hv, hi, hE, h2, hc2, hD, ho, k2⟩
  simp only [List.cons.injEq, Value.int.injEq, Value.slice.injEq, true_and, and_true] at hv
  obtain ⟨rfl, ⟨rfl, rfl, rfl⟩, rfl, rfl, rfl⟩ := hv
  have hndt : (l.take i).Nodup := hnd.sublist (List.take_sublist _ _)
  have hwf2 : WF (asS A (l.take i)) := wf_asS hwf hndt hE
  have hl2 := asS_len (l.take i) A
  refine bsp_intro (fun hlt => ?_) (fun hge => ?_)
  · have hlt : i < l.length := by simp at hlt; omega
    obtain ⟨s, sb, so, hs, hp, hcs⟩ := (hS.k0 k2).get hlt
    have htk := take_snoc hs
    have hnot : s ∉ l.take i := fun hm => by
      have h3 : (l.take (i + 1)).Nodup := hnd.sublist (List.take_sublist _ _)
      rw [htk, List.nodup_append] at h3
      exact h3.2.2 s hm s (List.mem_singleton.2 rfl) rfl
    have hget := asS_get (A := A) hnot
    rw [Int.toNat_natCast]
    have hf := acxfind_any h2 (by rw [hl2]; omega) c2 s
    rw [hl2] at hf
    have hbad : ∀ {e : Int} {wx : World}, K0 w wx → (match aget A s with | some v => if v.c = true then (10 : Int) else if 2147483646 ≤ v.h then 9 else 0 | none => 8) = e → e ≠ 0 → RetA (.returned (.tuple #[.slice p A.length c, .slice none 0 0, .int .i64 e])) wx (asR A l).1 (asR A l).2.1 (asR A l).2.2 ∧ K0 w wx := fun {e wx} k he hne => by
      rw [asR_err h0 hnd (asE_at hs hE he hne) hne]
      exact ⟨⟨p, c, none, 0, rfl, ⟨R, h.k0 k, hc⟩, .nil⟩, k⟩
    refine nn_is hp ⟨⟨by omega, by omega⟩, s, hcs, ⟨hf.mono fun e w3 ⟨⟨j, he, hj⟩, hw⟩ => ⟨j, he, by rw [hw]; exact .refl _ _, ?_⟩⟩⟩
    subst hw
    rcases hj with ⟨rfl, hg⟩ | ⟨j, x, rfl, hx, rfl⟩
    · rw [hget] at hg
      exact bsp_intro (fun _ => hbad k2 (by rw [hg]) (by decide)) (fun hb => by simp at hb)
    have hg2 := h2.found hwf2.dis hx
    have hg := hg2
    rw [hget] at hg
    obtain ⟨_, hh0, hh1, hiv⟩ := hwf.get hg
    have hle : (exI x.v.l).length ≤ 1000000 := hsm.len hwf (aget_mem hg)
    have hjl := (List.getElem?_eq_some_iff.1 hx).1
    have hlen2 := h2.len
    have hmx := List.mem_of_getElem? hx
    obtain ⟨y, b, o, hy, hpx, hat⟩ := h2.row.get hjl
    rw [hx] at hy
    cases hy
    refine bsp_intro (fun hb => by simp at hb; omega) (fun _ => ?_)
    rw [Int.toNat_natCast]
    refine nn_is hpx ⟨⟨by omega, by omega⟩, _, _, _, _, _, _, hat, fun n4 => bsp_intro (fun hb W hW => ?_) (fun hb => bsp_intro (fun hb2 W hW => ?_) (fun hb2 W hW => ?_))⟩
    · have hb : x.v.c = true := hb
      exact hbad (hW.k0 k2) (by rw [hg]; simp only; rw [if_pos hb]) (by decide)
    · have hb2 : x.v.h = 2147483646 := by simpa using hb2
      exact hbad (hW.k0 k2) (by rw [hg]; simp only; rw [if_neg (by rw [show x.v.c = false from hb]; simp), if_pos (by omega)]) (by decide)
    have hb : x.v.c = false := hb
    have hb2 : ¬ x.v.h = 2147483646 := by simpa using hb2
    rw [wr64 (x := x.v.h + 1) (by omega) (by omega)] at hW
    have kW : K0 w3 W := hW.kk rfl
    have hcn : W.heap[n4]? = some (.cells #[.string x.s, .int .i64 (x.v.h + 1), .slice x.q (exI x.v.l).length x.d, .bool x.v.c] 84 (0, 0)) := hW.cells 0 rfl
    have hnl := block_lt hcn
    have hng : w3.heap.size ≤ n4 := hW.fresh 0 rfl rfl
    have hsub := (h2.sub x hmx).k0 kW
    have hsrc : ∀ {wx : World}, K0 W wx → SrcP wx x.q ((exI x.v.l).flatMap inC) := fun k => inC_src (hsub.k0 k).row
    have hfl := inC_flat (exI x.v.l)
    obtain ⟨hwi, _⟩ := withI_ok (l := x.v.l) (n := x.v.h + 1) (by rw [show x.v.h + 1 - 1 = x.v.h by omega]; exact hiv) (by omega)
    have hone : ∀ u ∈ inC (x.v.h + 1), u.oneCell' = true := inC_one _
    have hsE := asE_snoc (A := A) (s := x.s) hE
    rw [hg, ← htk] at hsE
    simp only at hsE
    rw [if_neg (by rw [hb]; simp), if_neg (by omega)] at hsE
    have hsS := asS_snoc hndt hE hg2
    have hsN := asN_snoc hndt hE hg2
    rw [← htk] at hsS hsN
    refine ⟨fun wx => K0 W wx, .refl _ _, x.q, (exI x.v.l).length, x.d, fun wx k => cell_at (k.blk hcn (fun h => h)) rfl, x.v.h + 1, fun wx k => cell_at (k.blk hcn (fun h => h)) rfl, fun n6 w6 h6 => ⟨h6.kp _,
        app_own (w0 := W) (L := 1) (E := 8) (own_none h6.ge h6.block) (h6.kp _) (by omega) (by omega) hfl (hsrc (h6.kp _)) (fun p7 c7 w7 o7 k7 _ => ⟨k7, fun n8 w8 h8 => ⟨k7.trans (h8.kp _),
          app_own (L := 1) (E := 8) (m := 1) (owns_kp o7 (h8.kp (fun _ => False)) (fun _ _ h => h)) (k7.trans (h8.kp _)) (by omega) (by omega) rfl (src_block h8.block hone) (fun p9 c9 w9 o9 k9 _ => ?_)⟩⟩),
        fun n7 w7 h7 => ⟨(h6.kp _).trans (h7.kp _), app_own (w0 := W) (L := 1) (E := 8) (own_none h6.ge ((h7.kp (fun _ => False)).blk h6.block (fun h => h))) ((h6.kp _).trans (h7.kp _)) (by omega) (by omega) hfl (hsrc ((h6.kp _).trans (h7.kp _))) (fun p8 c8 w8 o8 k8 g8 => ⟨k8,
          app_own (L := 1) (E := 8) (m := 1) o8 k8 (by omega) (by omega) rfl (src_block (g8.blk h7.block (fun e => by have := own_n39 e; have := h6.size; have := h7.ge; omega)) hone) (fun p9 c9 w9 o9 k9 _ => ?_)⟩)⟩⟩,
      fun n6 w6 h6 => ⟨h6.kp _, fun n7 w7 h7 => ⟨(h6.kp _).trans (h7.kp _),
        app_own (w0 := W) (L := 1) (E := 8) (own_none (Nat.le_trans (h6.kp (fun _ => False)).size h7.ge) h7.block) ((h6.kp _).trans (h7.kp _)) (by omega) (by omega) hfl (hsrc ((h6.kp _).trans (h7.kp _))) (fun p8 c8 w8 o8 k8 g8 => ⟨k8,
          app_own (L := 1) (E := 8) (m := 1) o8 k8 (by omega) (by omega) rfl (src_block (g8.blk ((h7.kp (fun _ => False)).blk h6.block (fun h => h)) (fun e => by have := own_n39 e; have := h6.size; have := h7.ge; omega)) hone) (fun p9 c9 w9 o9 k9 _ => ?_)⟩)⟩⟩⟩
    all_goals
      have o9 : w9.ownsRow W.heap.size 3 1 (.slice p9 (0 + (exI x.v.l).length + 1) c9) (0 + (exI x.v.l).length + 1) (([] ++ (exI x.v.l).flatMap inC) ++ [.int .i64 (x.v.h + 1)]) := o9
      have hc9 := k9.blk hcn (fun h => h)
      refine ⟨cell_wr hc9 (by show 0 + 2 < 4; omega), fun w10 hput => ⟨.of_kp ((k9.mono fun _ _ e => e.elim).trans hput.kp) (fun n hn => by cases hn), x.s, x.v.h + 1, p9, 0 + (exI x.v.l).length + 1, c9, x.v.c, AtL_block (hput.block hc9) rfl, ?_⟩⟩
      have k10 : K0 w3 w10 := put_k0 (kW.trans k9) hput hng
      have eL : (exI (nxG x.v).l).length = 0 + (exI x.v.l).length + 1 := by
        show (exI (withI x.v.l (x.v.h + 1))).length = _
        rw [hwi, List.length_append, List.length_singleton]; omega
      have o10 : w10.ownsRow W.heap.size 3 1 (.slice p9 (exI (nxG x.v).l).length c9) (exI (nxG x.v).l).length ((exI (nxG x.v).l).flatMap inC) := owns_kp (by
        rw [eL]
        show w9.ownsRow _ _ _ _ _ ((exI (withI x.v.l (x.v.h + 1))).flatMap inC)
        rw [hwi, List.flatMap_append]
        exact o9) hput.kp (fun k hk e => by
          have e : k = n4 := e
          have := own_ge o9 (k := k) (by rw [eL] at hk; exact hk)
          omega)
      have hcall := acxset_any (h2.k0 k10) (by omega) hx ⟨x.s, nxG x.v, p9, c9⟩ (RowN.own o10) c2
      rw [show rxV ⟨x.s, nxG x.v, p9, c9⟩ = .agg #[.string x.s, .int .i64 (x.v.h + 1), .slice p9 (0 + (exI x.v.l).length + 1) c9, .bool x.v.c] by
        show Value.agg #[.string x.s, .int .i64 (x.v.h + 1), .slice p9 (exI (nxG x.v).l).length c9, .bool x.v.c] = _
        rw [eL], hl2] at hcall
      refine ⟨hcall.mono fun e w11 ⟨⟨p', c', he, hT, hc'⟩, k11⟩ => ⟨_, _, _, he, .of_k0 k11, x.v.h + 1, ?_, fun n12 W12 hW12 => ?_⟩⟩
      · exact cell_at (k11.blk (hput.block hc9) (fun h => h)) rfl
      have kx : K0 w3 W12 := (k10.trans k11).trans (hW12.kk rfl)
      have hoW := owns_kp ho kx (fun _ _ h => h)
      have hNl : (asN A (l.take i)).length ≤ 1000 := by rw [asN_len hndt hE, List.length_take]; omega
      have hT12 := hT.k0 (hW12.kk rfl : K0 w11 W12)
      have hDs : ∀ z ∈ R2.set j ⟨x.s, nxG x.v, p9, c9⟩, ∀ g o, z.q = some ⟨g, o, none⟩ → ∀ k, (Value.slice p1 (asN A (l.take i)).length c1).ownBlock = some k → k ≠ g := fun z hz g o e k hk => by
        rcases List.mem_or_eq_of_mem_set hz with hz | rfl
        · exact hD z hz g o e k hk
        · have e : p9 = some ⟨g, o, none⟩ := e
          have h1 := own_lt ho hk
          have h2 := own_ge o9 (k := g) (by rw [e]; rfl)
          have := kW.size
          omega
      refine ⟨_, _, hoW, by omega, by omega, (k2.trans kx).size, fun p13 c13 w13 o13 g13 a13 => ?_⟩
      have kg := kp_grown g13
      have k13 : K0 w w13 := (k2.trans kx).fresh kg (fun j hj e => by have := own_ge hoW e; omega)
      rw [inc64 (by omega)]
      refine ⟨.of_kp kg (fun n hn => by cases hn), ⟨i + 1, p13, c13, p', c', R2.set j ⟨x.s, nxG x.v, p9, c9⟩, ?_, hlt, hsE, ?_, hc', ?_, ?_, k13⟩, by simp only [Int.toNat_natCast]; omega⟩
      · rw [hsN, List.length_append, List.length_singleton]
      · rw [hsS, ← h2.aset hwf2.dis hx (y := ⟨x.s, nxG x.v, p9, c9⟩) rfl]
        exact hT12.kpD kg (fun k cc ff hcc e => own_not hoW hcc rfl e) (fun z hz g o e e2 => hDs z hz g o e g e2 rfl)
      · intro z hz g o e k hk
        rw [hsN, List.length_append, List.length_singleton] at hk
        rcases a13.own with e2 | e2
        · rw [e2] at hk
          exact hDs z hz g o e k hk
        · rw [e2] at hk
          cases hk
          obtain ⟨cc, ff, hcc⟩ := (hT12.sub z hz).ty g o e
          have := block_lt hcc
          omega
      · rw [hsN, List.length_append, List.length_singleton, List.flatMap_append]
        exact o13
  · have hi2 : i = l.length := by simp at hge; omega
    subst hi2
    rw [List.take_length] at hE h2 ho ⊢
    have : asR A l = (asS A l, asN A l, 0) := by unfold asR; rw [if_neg h0, if_neg (by simpa using hnd), if_neg (by simpa using hE)]
    rw [this]
    exact ⟨⟨p2, c2, p1, c1, by rw [asS_len l A], ⟨R2, h2, by rw [asS_len l A]; exact hc2⟩, RowN.own ho⟩, k2⟩
end

end Go.Proofs.YtgmmoghagpmpfaaGreatDoor

/- Chapter 27: intervals, places, groups compared by ==. No condition. -/
namespace Go.Proofs.YtgmmoghagpmpfaaGreatDoor
open Go.RowKit

theorem eqf_cons {P : Program} {w : World} {d : Nat} {xs ys : Array Value} {f : Field} {fs : List Field} (hn : f.name ≠ "_") {a b : Value} (hx : (part f.type xs f.offset).run P w = .ok a w) (hy : (part f.type ys f.offset).run P w = .ok b w) {r s : Bool} (hr : (Op.equalIn d f.type a b).run P w = .ok r w) (hs : (Op.eqFields d xs ys fs).run P w = .ok s w) : (Op.eqFields d xs ys (f :: fs)).run P w = .ok (r && s) w := by
  simp only [Op.eqFields, if_pos hn, Sem.run_bind, hx, hy, hr, Result.andThen_ok]
  cases r with
  | true => simpa using hs
  | false => simp
theorem fieldsOf_of {P : Program} {t : TypeId} {fs : Array Field} (h : P.underlying t = some (.struct fs)) : P.fieldsOf t = fs := by unfold Program.fieldsOf; rw [h]
theorem ivEq (x y : Iv) : EqP Tryz.prog 105 (.agg #[.int .i64 x.a, .int .i64 x.b]) (.agg #[.int .i64 y.a, .int .i64 y.b]) (x.a == y.a && (x.b == y.b && true)) := by
  refine ⟨fun w => ?_, by kernel_rfl, _, _, rfl, rfl⟩
  show (Op.equalIn 10000 _ _ _).run _ w = _
  rw [run_equalIn_struct w 9999 105 _ _ (by kernel_rfl) (by kernel_rfl), fieldsOf_of Tryz.underlying105]
  exact eqf_cons (by decide) (by kernel_rfl) (by kernel_rfl) (run_equalIn_int w _ _ .i64 _ _ _ Tryz.underlying3) (eqf_cons (by decide) (by kernel_rfl) (by kernel_rfl) (run_equalIn_int w _ _ .i64 _ _ _ Tryz.underlying3) rfl)
theorem plEq27 (s t : ByteArray) (x y : Int) : EqP Tryz.prog 64 (.agg #[.string s, .int .i64 x]) (.agg #[.string t, .int .i64 y]) (s.toList == t.toList && (x == y && true)) := by
  refine ⟨fun w => ?_, by kernel_rfl, _, _, rfl, rfl⟩
  show (Op.equalIn 10000 _ _ _).run _ w = _
  rw [run_equalIn_struct w 9999 64 _ _ (by kernel_rfl) (by kernel_rfl), fieldsOf_of Tryz.underlying64]
  exact eqf_cons (by decide) (by kernel_rfl) (by kernel_rfl) (run_equalIn_string w _ _ _ _ Tryz.underlying9) (eqf_cons (by decide) (by kernel_rfl) (by kernel_rfl) (run_equalIn_int w _ _ .i64 _ _ _ Tryz.underlying3) rfl)
theorem grEq27 (s t : ByteArray) (a b c x y z : Int) (d e : Bool) : EqP Tryz.prog 31 (.agg #[.string s, .int .i64 a, .int .i64 b, .int .i64 c, .bool d]) (.agg #[.string t, .int .i64 x, .int .i64 y, .int .i64 z, .bool e]) (s.toList == t.toList && (a == x && (b == y && (c == z && (d == e && true))))) := by
  refine ⟨fun w => ?_, by kernel_rfl, _, _, rfl, rfl⟩
  show (Op.equalIn 10000 _ _ _).run _ w = _
  rw [run_equalIn_struct w 9999 31 _ _ (by kernel_rfl) (by kernel_rfl), fieldsOf_of Tryz.underlying31]
  exact eqf_cons (by decide) (by kernel_rfl) (by kernel_rfl) (run_equalIn_string w _ _ _ _ Tryz.underlying9) (eqf_cons (by decide) (by kernel_rfl) (by kernel_rfl) (run_equalIn_int w _ _ .i64 _ _ _ Tryz.underlying3) (eqf_cons (by decide) (by kernel_rfl) (by kernel_rfl) (run_equalIn_int w _ _ .i64 _ _ _ Tryz.underlying3) (eqf_cons (by decide) (by kernel_rfl) (by kernel_rfl) (run_equalIn_int w _ _ .i64 _ _ _ Tryz.underlying3) (eqf_cons (by decide) (by kernel_rfl) (by kernel_rfl) (run_equalIn_bool w _ _ _ _ Tryz.underlying4) rfl))))

end Go.Proofs.YtgmmoghagpmpfaaGreatDoor

/- The formulas of functions by the symbolic evaluator, and that each gives the call's contract. Written by a program (gen.py). No condition. -/
namespace Go.Proofs.YtgmmoghagpmpfaaGreatDoor
set_option maxRecDepth 100000
set_option linter.unusedVariables false

def VC_acnew (w : World) (R : Ending → World → Prop) : Prop :=
 ∀ (n : Nat) (w1 : World),
 NewB w (Obj.map #[] 0) n w1 →
 KeptL [] w w1 ∧
 ∀ (n_1 : Nat) (W : World),
 Loc w.heap.size [Blk.mk n_1 99 [Value.map (some n)] 2] w1 W →
 R (Ending.returned (Value.pointer (some (Addr.mk n_1 0 none)))) W
theorem vc_acnew (w : World) (R : Ending → World → Prop) (h : VC_acnew w R) : Calls Tryz.prog 19 ([] : List Value).toArray w R := by
  have e : execR2 { P := Tryz.prog, loops := [], pur := pur1, tails := [], joins := [], boxes := [] } Tryz.f19.results.toList R (Tryz.f19.body.getD .skip) (initF [] (Tryz.f19.ntmps - ([] : List Value).length)) w = VC_acnew w R := by kernel_rfl
  have hb : Tryz.f19.body = some (Tryz.f19.body.getD .skip) := by kernel_rfl
  exact calls_of_exec2' (P := Tryz.prog) (fn := Tryz.f19) (c := Tryz.f19.body.getD .skip) (args := []) (w := w) (R := R) pur1_ok Tryz.func19 hb e h

def VC_acfind (b : Nat) (s : ByteArray) (w : World) (R : Ending → World → Prop) : Prop :=
 ∀ (n : Nat),
 ∃ (x : Option Nat),
 (∀ (W : World),
 Loc w.heap.size [Blk.mk n 94 [Value.int IntKind.i64 0, Value.bool false, Value.slice none 0 0] 2] w W →
 W.cell? (Addr.mk b 0 none) = some (Value.map x)) ∧
 ∃ (x_1 : Int),
 ∃ (x_2 : Bool),
 ∃ (p : Option Addr),
 ∃ (n_1 : Nat),
 ∃ (c : Nat),
 ∃ (b : Bool),
 (∀ (W : World),
 Loc w.heap.size [Blk.mk n 94 [Value.int IntKind.i64 0, Value.bool false, Value.slice none 0 0] 2] w W →
 LookP Tryz.prog 97 (Value.map x) (Value.string s) true
 (Value.tuple #[Value.agg #[Value.int IntKind.i64 x_1, Value.bool x_2, Value.slice p n_1 c], Value.bool b])
 W) ∧
 ∀ (n_2 : Nat),
 bsp (!b)
 (∀ (W : World),
 Loc w.heap.size
 [Blk.mk n_2 94 [Value.int IntKind.i64 x_1, Value.bool x_2, Value.slice p n_1 c] (wrM 2),
 Blk.mk n 94 [Value.int IntKind.i64 0, Value.bool false, Value.slice none 0 0] (wrM 2)]
 w W →
 R
 (Ending.returned
 (Value.tuple
 #[Value.agg #[Value.int IntKind.i64 0, Value.bool false, Value.slice none 0 0],
 Value.int IntKind.i64 8]))
 W)
 (∀ (W : World),
 Loc w.heap.size
 [Blk.mk n_2 94 [Value.int IntKind.i64 x_1, Value.bool x_2, Value.slice p n_1 c] (wrM 2),
 Blk.mk n 94 [Value.int IntKind.i64 x_1, Value.bool x_2, Value.slice p n_1 c] (wrM 2)]
 w W →
 R
 (Ending.returned
 (Value.tuple
 #[Value.agg #[Value.int IntKind.i64 x_1, Value.bool x_2, Value.slice p n_1 c],
 Value.int IntKind.i64 0]))
 W)
theorem vc_acfind (b : Nat) (s : ByteArray) (w : World) (R : Ending → World → Prop) (h : VC_acfind b s w R) : Calls Tryz.prog 45 ([Value.pointer
    (some { block := b, off := 0 }),
  Value.string s] : List Value).toArray w R := by
  have e : execR2 { P := Tryz.prog, loops := [], pur := pur1, tails := [], joins := [], boxes := [] } Tryz.f45.results.toList R (Tryz.f45.body.getD .skip) (initF [Value.pointer
    (some { block := b, off := 0 }),
  Value.string
    s] (Tryz.f45.ntmps - ([Value.pointer (some { block := b, off := 0 }),
  Value.string s] : List Value).length)) w = VC_acfind b s w R := by kernel_rfl
  have hb : Tryz.f45.body = some (Tryz.f45.body.getD .skip) := by kernel_rfl
  exact calls_of_exec2' (P := Tryz.prog) (fn := Tryz.f45) (c := Tryz.f45.body.getD .skip) (args := [Value.pointer
    (some { block := b, off := 0 }),
  Value.string s]) (w := w) (R := R) pur1_ok Tryz.func45 hb e h

def VC_acopen (b : Nat) (s : ByteArray) (w : World) (R : Ending → World → Prop) : Prop :=
 CallsS Tryz.prog 64 #[Value.string s] w fun (e : Ending) (w' : World) =>
 ∃ (x : Int),
 e = Ending.returned (Value.int IntKind.i64 x) ∧
 KeptL [] w w' ∧
 bsp (x != 0) (R (Ending.returned (Value.int IntKind.i64 x)) w')
 (∃ (x : Option Nat),
 w'.cell? (Addr.mk b 0 none) = some (Value.map x) ∧
 ∃ (x_1 : Int),
 ∃ (x_2 : Bool),
 ∃ (p : Option Addr),
 ∃ (n : Nat),
 ∃ (c : Nat),
 ∃ (b_1 : Bool),
 LookP Tryz.prog 97 (Value.map x) (Value.string s) true
 (Value.tuple
 #[Value.agg #[Value.int IntKind.i64 x_1, Value.bool x_2, Value.slice p n c], Value.bool b_1])
 w' ∧
 ∀ (n_1 : Nat),
 ∃ (x : Bool),
 gimp b_1
 (∀ (W : World),
 Loc w.heap.size
 [Blk.mk n_1 94 [Value.int IntKind.i64 x_1, Value.bool x_2, Value.slice p n c] (wrM 2)] w' W →
 W.cell? (Addr.mk n_1 (0 + 1) none) = some (Value.bool x)) ∧
 bsp (b_1 && !x)
 (∀ (W : World),
 Loc w.heap.size
 [Blk.mk n_1 94 [Value.int IntKind.i64 x_1, Value.bool x_2, Value.slice p n c] (wrM 2)] w' W →
 R (Ending.returned (Value.int IntKind.i64 7)) W)
 (∃ (x : Option Nat),
 gimp (!b_1)
 (∀ (W : World),
 Loc w.heap.size
 [Blk.mk n_1 94 [Value.int IntKind.i64 x_1, Value.bool x_2, Value.slice p n c] (wrM 2)] w' W →
 W.cell? (Addr.mk b 0 none) = some (Value.map x)) ∧
 ∃ (n_2 : Int),
 gimp (!b_1)
 (∀ (W : World),
 Loc w.heap.size
 [Blk.mk n_1 94 [Value.int IntKind.i64 x_1, Value.bool x_2, Value.slice p n c] (wrM 2)] w' W →
 LenP Tryz.prog 97 (Value.map x) n_2 W) ∧
 bsp (!b_1 && decide (n_2 ≥ 4096))
 (∀ (W : World),
 Loc w.heap.size
 [Blk.mk n_1 94 [Value.int IntKind.i64 x_1, Value.bool x_2, Value.slice p n c] (wrM 2)] w' W →
 R (Ending.returned (Value.int IntKind.i64 9)) W)
 (∃ (x : Option Nat),
 (∀ (W : World),
 Loc w.heap.size
 [Blk.mk n_1 94 [Value.int IntKind.i64 x_1, Value.bool x_2, Value.slice p n c] (wrM 2)] w'
 W →
 W.cell? (Addr.mk b 0 none) = some (Value.map x)) ∧
 bsp x.isNone
 (∀ (W : World),
 Loc w.heap.size
 [Blk.mk n_1 94 [Value.int IntKind.i64 x_1, Value.bool x_2, Value.slice p n c] (wrM 2)] w'
 W →
 ∀ (n_3 : Nat) (w1 : World),
 NewB W (Obj.map #[] 0) n_3 w1 →
 KeptL [n_1] W w1 ∧
 ((∃ (u : Value), w1.cell? (Addr.mk b 0 none) = some u) ∧
 w1.frozen? (Addr.mk b 0 none) = false) ∧
 ∀ (w1_1 : World),
 PutB w1 b 0 [Value.map (some n_3)] w1_1 →
 KeptL [n_1] w1 w1_1 ∧
 ∃ (x : Option Nat),
 (∀ (W : World),
 Loc w.heap.size
 [Blk.mk n_1 94 [Value.int IntKind.i64 x_1, Value.bool false, Value.slice p n c]
 (wrM 0)]
 w1_1 W →
 W.cell? (Addr.mk b 0 none) = some (Value.map x)) ∧
 ∀ (W : World),
 Loc w.heap.size
 [Blk.mk n_1 94 [Value.int IntKind.i64 x_1, Value.bool false, Value.slice p n c]
 (wrM 0)]
 w1_1 W →
 ∃ (w1 : World),
 UpdP Tryz.prog 97 (Value.map x) (Value.string s)
 (Value.agg #[Value.int IntKind.i64 x_1, Value.bool false, Value.slice p n c])
 W w1 ∧
 KeptL [n_1] W w1 ∧ R (Ending.returned (Value.int IntKind.i64 0)) w1)
 (∃ (x : Option Nat),
 (∀ (W : World),
 Loc w.heap.size
 [Blk.mk n_1 94 [Value.int IntKind.i64 x_1, Value.bool false, Value.slice p n c]
 (wrM (wrM 2))]
 w' W →
 W.cell? (Addr.mk b 0 none) = some (Value.map x)) ∧
 ∀ (W : World),
 Loc w.heap.size
 [Blk.mk n_1 94 [Value.int IntKind.i64 x_1, Value.bool false, Value.slice p n c]
 (wrM (wrM 2))]
 w' W →
 ∃ (w1 : World),
 UpdP Tryz.prog 97 (Value.map x) (Value.string s)
 (Value.agg #[Value.int IntKind.i64 x_1, Value.bool false, Value.slice p n c]) W w1 ∧
 KeptL [n_1] W w1 ∧ R (Ending.returned (Value.int IntKind.i64 0)) w1))))
theorem vc_acopen (b : Nat) (s : ByteArray) (w : World) (R : Ending → World → Prop) (h : VC_acopen b s w R) : Calls Tryz.prog 31 ([Value.pointer
    (some { block := b, off := 0 }),
  Value.string s] : List Value).toArray w R := by
  have e : execR2 { P := Tryz.prog, loops := [], pur := pur1, tails := [(14, 6)], joins := [], boxes := [] } Tryz.f31.results.toList R (Tryz.f31.body.getD .skip) (initF [Value.pointer
    (some { block := b, off := 0 }),
  Value.string
    s] (Tryz.f31.ntmps - ([Value.pointer (some { block := b, off := 0 }),
  Value.string s] : List Value).length)) w = VC_acopen b s w R := by kernel_rfl
  have hb : Tryz.f31.body = some (Tryz.f31.body.getD .skip) := by kernel_rfl
  exact calls_of_exec2' (P := Tryz.prog) (fn := Tryz.f31) (c := Tryz.f31.body.getD .skip) (args := [Value.pointer
    (some { block := b, off := 0 }),
  Value.string s]) (w := w) (R := R) pur1_ok Tryz.func31 hb e h

def VC_acclose (b : Nat) (s : ByteArray) (w : World) (R : Ending → World → Prop) : Prop :=
 CallsS Tryz.prog 45 #[Value.pointer (some (Addr.mk b 0 none)), Value.string s] w fun (e : Ending) (w' : World) =>
 ∃ (x : Int),
 ∃ (x_1 : Bool),
 ∃ (p : Option Addr),
 ∃ (n : Nat),
 ∃ (c : Nat),
 ∃ (x_2 : Int),
 e =
 Ending.returned
 (Value.tuple
 #[Value.agg #[Value.int IntKind.i64 x, Value.bool x_1, Value.slice p n c], Value.int IntKind.i64 x_2]) ∧
 KeptL [] w w' ∧
 ∀ (n_1 : Nat),
 bsp (x_2 != 0)
 (∀ (W : World),
 Loc w.heap.size [Blk.mk n_1 94 [Value.int IntKind.i64 x, Value.bool x_1, Value.slice p n c] (wrM 2)] w' W →
 R (Ending.returned (Value.int IntKind.i64 x_2)) W)
 (bsp x_1
 (∀ (W : World),
 Loc w.heap.size [Blk.mk n_1 94 [Value.int IntKind.i64 x, Value.bool x_1, Value.slice p n c] (wrM 2)] w' W →
 R (Ending.returned (Value.int IntKind.i64 10)) W)
 (∃ (x_3 : Option Nat),
 (∀ (W : World),
 Loc w.heap.size
 [Blk.mk n_1 94 [Value.int IntKind.i64 x, Value.bool true, Value.slice p n c] (wrM (wrM 2))] w' W →
 W.cell? (Addr.mk b 0 none) = some (Value.map x_3)) ∧
 ∀ (W : World),
 Loc w.heap.size
 [Blk.mk n_1 94 [Value.int IntKind.i64 x, Value.bool true, Value.slice p n c] (wrM (wrM 2))] w' W →
 ∃ (w1 : World),
 UpdP Tryz.prog 97 (Value.map x_3) (Value.string s)
 (Value.agg #[Value.int IntKind.i64 x, Value.bool true, Value.slice p n c]) W w1 ∧
 KeptL [n_1] W w1 ∧ R (Ending.returned (Value.int IntKind.i64 0)) w1))
theorem vc_acclose (b : Nat) (s : ByteArray) (w : World) (R : Ending → World → Prop) (h : VC_acclose b s w R) : Calls Tryz.prog 26 ([Value.pointer
    (some { block := b, off := 0 }),
  Value.string s] : List Value).toArray w R := by
  have e : execR2 { P := Tryz.prog, loops := [], pur := pur1, tails := [(7, 6)], joins := [], boxes := [] } Tryz.f26.results.toList R (Tryz.f26.body.getD .skip) (initF [Value.pointer
    (some { block := b, off := 0 }),
  Value.string
    s] (Tryz.f26.ntmps - ([Value.pointer (some { block := b, off := 0 }),
  Value.string s] : List Value).length)) w = VC_acclose b s w R := by kernel_rfl
  have hb : Tryz.f26.body = some (Tryz.f26.body.getD .skip) := by kernel_rfl
  exact calls_of_exec2' (P := Tryz.prog) (fn := Tryz.f26) (c := Tryz.f26.body.getD .skip) (args := [Value.pointer
    (some { block := b, off := 0 }),
  Value.string s]) (w := w) (R := R) pur1_ok Tryz.func26 hb e h

def VC_acwith (p : Option Addr) (n : Nat) (c : Nat) (v : Int) (w : World) (R : Ending → World → Prop) : Prop :=
 nn (decide (IntKind.i64.wrap ((↑n : Int) - 1) ≥ 0)) p fun (b o : Nat) =>
 gimp (decide (IntKind.i64.wrap ((↑n : Int) - 1) ≥ 0))
 (0 ≤ IntKind.i64.wrap ((↑n : Int) - 1) ∧ IntKind.i64.wrap ((↑n : Int) - 1) < (↑n : Int)) ∧
 ∃ (x : Int),
 gimp (decide (IntKind.i64.wrap ((↑n : Int) - 1) ≥ 0))
 (w.cell? (Addr.mk b (o + (IntKind.i64.wrap ((↑n : Int) - 1)).toNat * 2 + 1) none) =
 some (Value.int IntKind.i64 x)) ∧
 bsp (decide (IntKind.i64.wrap ((↑n : Int) - 1) ≥ 0) && x == IntKind.i64.wrap (v - 1))
 (nn true p fun (b o : Nat) =>
 (0 ≤ IntKind.i64.wrap ((↑n : Int) - 1) ∧ IntKind.i64.wrap ((↑n : Int) - 1) < (↑n : Int)) ∧
 ((∃ (u : Value), w.cell? (Addr.mk b (o + (IntKind.i64.wrap ((↑n : Int) - 1)).toNat * 2 + 1) none) = some u) ∧
 w.frozen? (Addr.mk b (o + (IntKind.i64.wrap ((↑n : Int) - 1)).toNat * 2 + 1) none) = false) ∧
 ∀ (w1 : World),
 PutB w b (o + (IntKind.i64.wrap ((↑n : Int) - 1)).toNat * 2 + 1) [Value.int IntKind.i64 v] w1 →
 KeptL [] w w1 ∧ R (Ending.returned (Value.slice p n c)) w1)
 (∀ (n_1 : Nat) (W : World),
 Loc w.heap.size [Blk.mk n_1 105 [Value.int IntKind.i64 v, Value.int IntKind.i64 v] 2] w W →
 ∃ (base : Nat),
 ∃ (xs : List Value),
 W.ownsRow base 105 2 (Value.slice p n c) n xs ∧
 n + 1 ≤ 9223372036854775807 ∧
 (n + 1) * 16 ≤ 140737488355328 ∧
 base ≤ W.heap.size ∧
 ∀ (p' : Option Addr) (c' : Nat) (w' : World),
 w'.ownsRow base 105 2 (Value.slice p' (n + 1) c') (n + 1)
 (xs ++ [Value.int IntKind.i64 v, Value.int IntKind.i64 v]) →
 W.grownBy w' (Value.slice p n c).ownBlock →
 AppL W p n c 1 p' c' → KeptL [] W w' ∧ R (Ending.returned (Value.slice p' (n + 1) c')) w')
theorem vc_acwith (p : Option Addr) (n : Nat) (c : Nat) (v : Int) (w : World) (R : Ending → World → Prop) (h : VC_acwith p n c v w R) : Calls Tryz.prog 61 ([Value.slice
    p n c,
  Value.int IntKind.i64 v] : List Value).toArray w R := by
  have e : execR2 { P := Tryz.prog, loops := [], pur := pur1, tails := [], joins := [], boxes := [] } Tryz.f61.results.toList R (Tryz.f61.body.getD .skip) (initF [Value.slice
    p n c,
  Value.int IntKind.i64
    v] (Tryz.f61.ntmps - ([Value.slice p n c,
  Value.int IntKind.i64 v] : List Value).length)) w = VC_acwith p n c v w R := by kernel_rfl
  have hb : Tryz.f61.body = some (Tryz.f61.body.getD .skip) := by kernel_rfl
  exact calls_of_exec2' (P := Tryz.prog) (fn := Tryz.f61) (c := Tryz.f61.body.getD .skip) (args := [Value.slice p n c,
  Value.int IntKind.i64 v]) (w := w) (R := R) pur1_ok Tryz.func61 hb e h

def VC_acremove (b : Nat) (s : ByteArray) (v : Int) (w : World) (R : Ending → World → Prop) : Prop :=
 ∀ (n : Nat) (W : World),
 Loc w.heap.size [Blk.mk n 64 [Value.string s, Value.int IntKind.i64 v] 2] w W →
 CallsS Tryz.prog 45 #[Value.pointer (some (Addr.mk b 0 none)), Value.string s] W fun (e : Ending) (w' : World) =>
 ∃ (x : Int),
 ∃ (x_1 : Bool),
 ∃ (p : Option Addr),
 ∃ (n_1 : Nat),
 ∃ (c : Nat),
 ∃ (x_2 : Int),
 e =
 Ending.returned
 (Value.tuple
 #[Value.agg #[Value.int IntKind.i64 x, Value.bool x_1, Value.slice p n_1 c], Value.int IntKind.i64 x_2]) ∧
 KeptL [n] W w' ∧
 ∀ (n_2 : Nat),
 bsp (x_2 != 0)
 (∀ (W : World),
 Loc w.heap.size
 [Blk.mk n_2 94 [Value.int IntKind.i64 x, Value.bool x_1, Value.slice p n_1 c] (wrM 2),
 Blk.mk n 64 [Value.string s, Value.int IntKind.i64 v] 0]
 w' W →
 R (Ending.returned (Value.int IntKind.i64 x_2)) W)
 (∀ (W : World),
 Loc w.heap.size
 [Blk.mk n_2 94 [Value.int IntKind.i64 x, Value.bool x_1, Value.slice p n_1 c] (wrM 2),
 Blk.mk n 64 [Value.string s, Value.int IntKind.i64 v] 0]
 w' W →
 CallsS Tryz.prog 63
 #[Value.agg #[Value.int IntKind.i64 x, Value.bool x_1, Value.slice p n_1 c], Value.int IntKind.i64 v] W
 fun (e : Ending) (w' : World) =>
 ∃ (x_3 : Bool),
 e = Ending.returned (Value.bool x_3) ∧
 KeptL [n_2, n] W w' ∧
 bsp (!x_3) (R (Ending.returned (Value.int IntKind.i64 8)) w')
 (∀ (n_3 : Nat) (W : World),
 Loc w.heap.size
 [Blk.mk n_3 92 [Value.slice none 0 0] 2,
 Blk.mk n_2 94 [Value.int IntKind.i64 x, Value.bool x_1, Value.slice p n_1 c] 0,
 Blk.mk n 64 [Value.string s, Value.int IntKind.i64 v] 0]
 w' W →
 ∃ (I : List Value → World → Prop),
 ∃ (m : List Value → World → Nat),
 I [Value.int IntKind.i64 0] W ∧
 ∀ (x_4 : Int) (w' : World),
 I [Value.int IntKind.i64 x_4] w' →
 Loc w.heap.size
 [Blk.mk n_2 94 [Value.int IntKind.i64 x, Value.bool x_1, Value.slice p n_1 c] 0,
 Blk.mk n 64 [Value.string s, Value.int IntKind.i64 v] 0]
 w' w' →
 bsp (decide (x_4 < (↑n_1 : Int)))
 (nn true p fun (b o : Nat) =>
 (0 ≤ x_4 ∧ x_4 < (↑n_1 : Int)) ∧
 ∃ (x_5 : Int),
 ∃ (x_6 : Int),
 AtL w' b (o + x_4.toNat * 2) [Value.int IntKind.i64 x_5, Value.int IntKind.i64 x_6] ∧
 ∀ (n_4 : Nat),
 ∃ (x_7 : Int),
 gimp (!decide (v < x_5))
 (∀ (W : World),
 Loc w.heap.size
 [Blk.mk n_2 94 [Value.int IntKind.i64 x, Value.bool x_1, Value.slice p n_1 c]
 0,
 Blk.mk n 64 [Value.string s, Value.int IntKind.i64 v] 0,
 Blk.mk n_4 105 [Value.int IntKind.i64 x_5, Value.int IntKind.i64 x_6] (wrM 2)]
 w' W →
 W.cell? (Addr.mk n (0 + 1) none) = some (Value.int IntKind.i64 x_7)) ∧
 ∃ (x_8 : Int),
 gimp (!decide (v < x_5))
 (∀ (W : World),
 Loc w.heap.size
 [Blk.mk n_2 94 [Value.int IntKind.i64 x, Value.bool x_1, Value.slice p n_1 c]
 0,
 Blk.mk n 64 [Value.string s, Value.int IntKind.i64 v] 0,
 Blk.mk n_4 105 [Value.int IntKind.i64 x_5, Value.int IntKind.i64 x_6]
 (wrM 2)]
 w' W →
 W.cell? (Addr.mk n_4 (0 + 1) none) = some (Value.int IntKind.i64 x_8)) ∧
 bsp (decide (v < x_5) || decide (x_7 > x_8))
 (∀ (W : World),
 Loc w.heap.size
 [Blk.mk n_2 94 [Value.int IntKind.i64 x, Value.bool x_1, Value.slice p n_1 c]
 0,
 Blk.mk n 64 [Value.string s, Value.int IntKind.i64 v] 0,
 Blk.mk n_4 105 [Value.int IntKind.i64 x_5, Value.int IntKind.i64 x_6]
 (wrM 2)]
 w' W →
 ∃ (f : Nat),
 ∃ (a : Array Value),
 ∃ (b : Array Value),
 Value.func (Fn.func 65) #[] #[Value.pointer (some (Addr.mk n_3 0 none))] =
 Value.func (Fn.func f) a b ∧
 okFn Tryz.prog f = true ∧
 CallsS Tryz.prog f
 (appA a [Value.int IntKind.i64 x_5, Value.int IntKind.i64 x_6] b) W
 fun (e : Ending) (w'_1 : World) =>
 e = Ending.returned (Value.tuple #[]) ∧
 KeptL [n_2, n, n_4] W w'_1 ∧
 I [Value.int IntKind.i64 (IntKind.i64.wrap (x_4 + 1))] w'_1 ∧
 m [Value.int IntKind.i64 (IntKind.i64.wrap (x_4 + 1))] w'_1 <
 m [Value.int IntKind.i64 x_4] w')
 (∀ (W : World),
 Loc w.heap.size
 [Blk.mk n_2 94 [Value.int IntKind.i64 x, Value.bool x_1, Value.slice p n_1 c]
 0,
 Blk.mk n 64 [Value.string s, Value.int IntKind.i64 v] 0,
 Blk.mk n_4 105 [Value.int IntKind.i64 x_5, Value.int IntKind.i64 x_6]
 (wrM 2)]
 w' W →
 ∃ (f : Nat),
 ∃ (a : Array Value),
 ∃ (b : Array Value),
 Value.func (Fn.func 65) #[] #[Value.pointer (some (Addr.mk n_3 0 none))] =
 Value.func (Fn.func f) a b ∧
 okFn Tryz.prog f = true ∧
 CallsS Tryz.prog f
 (appA a
 [Value.int IntKind.i64 x_5,
 Value.int IntKind.i64 (IntKind.i64.wrap (v - 1))]
 b)
 W fun (e : Ending) (w'_1 : World) =>
 e = Ending.returned (Value.tuple #[]) ∧
 KeptL [n_2, n, n_4] W w'_1 ∧
 ∃ (f : Nat),
 ∃ (a : Array Value),
 ∃ (b : Array Value),
 Value.func (Fn.func 65) #[]
 #[Value.pointer (some (Addr.mk n_3 0 none))] =
 Value.func (Fn.func f) a b ∧
 okFn Tryz.prog f = true ∧
 CallsS Tryz.prog f
 (appA a
 [Value.int IntKind.i64 (IntKind.i64.wrap (v + 1)),
 Value.int IntKind.i64 x_6]
 b)
 w'_1 fun (e : Ending) (w'_2 : World) =>
 e = Ending.returned (Value.tuple #[]) ∧
 KeptL [n_2, n, n_4] w'_1 w'_2 ∧
 I [Value.int IntKind.i64 (IntKind.i64.wrap (x_4 + 1))] w'_2 ∧
 m [Value.int IntKind.i64 (IntKind.i64.wrap (x_4 + 1))] w'_2 <
 m [Value.int IntKind.i64 x_4] w'))
 (∃ (p : Option Addr),
 ∃ (n_4 : Nat),
 ∃ (c : Nat),
 w'.cell? (Addr.mk n_3 0 none) = some (Value.slice p n_4 c) ∧
 ∃ (x_5 : Option Nat),
 (∀ (W : World),
 Loc w.heap.size
 [Blk.mk n_2 94 [Value.int IntKind.i64 x, Value.bool x_1, Value.slice p n_4 c]
 (wrM 0),
 Blk.mk n 64 [Value.string s, Value.int IntKind.i64 v] 0]
 w' W →
 W.cell? (Addr.mk b 0 none) = some (Value.map x_5)) ∧
 ∀ (W : World),
 Loc w.heap.size
 [Blk.mk n_2 94 [Value.int IntKind.i64 x, Value.bool x_1, Value.slice p n_4 c]
 (wrM 0),
 Blk.mk n 64 [Value.string s, Value.int IntKind.i64 v] 0]
 w' W →
 ∃ (w1 : World),
 UpdP Tryz.prog 97 (Value.map x_5) (Value.string s)
 (Value.agg #[Value.int IntKind.i64 x, Value.bool x_1, Value.slice p n_4 c]) W
 w1 ∧
 KeptL [n_2, n] W w1 ∧ R (Ending.returned (Value.int IntKind.i64 0)) w1)))
theorem vc_acremove (b : Nat) (s : ByteArray) (v : Int) (w : World) (R : Ending → World → Prop) (h : VC_acremove b s v w R) : Calls Tryz.prog 33 ([Value.pointer
    (some { block := b, off := 0 }),
  Value.agg #[Value.string s, Value.int IntKind.i64 v]] : List Value).toArray w R := by
  have e : execR2 { P := Tryz.prog, loops := [(9, [(30, Ck.int IntKind.i64)])], pur := pur1, tails := [(17, 7)], joins := [], boxes := [] } Tryz.f33.results.toList R (Tryz.f33.body.getD .skip) (initF [Value.pointer
    (some { block := b, off := 0 }),
  Value.agg
    #[Value.string s,
      Value.int IntKind.i64
        v]] (Tryz.f33.ntmps - ([Value.pointer (some { block := b, off := 0 }),
  Value.agg
    #[Value.string s, Value.int IntKind.i64 v]] : List Value).length)) w = VC_acremove b s v w R := by kernel_rfl
  have hb : Tryz.f33.body = some (Tryz.f33.body.getD .skip) := by kernel_rfl
  exact calls_of_exec2' (P := Tryz.prog) (fn := Tryz.f33) (c := Tryz.f33.body.getD .skip) (args := [Value.pointer
    (some { block := b, off := 0 }),
  Value.agg #[Value.string s, Value.int IntKind.i64 v]]) (w := w) (R := R) pur1_ok Tryz.func33 hb e h

def VC_achasg (z : Int) (cl : Bool) (p : Option Addr) (n : Nat) (c : Nat) (v : Int) (w : World) (R : Ending → World → Prop) : Prop :=
 ∀ (n_1 n_2 : Nat) (W : World),
 Loc w.heap.size
 [Blk.mk n_2 3 [Value.int IntKind.i64 v] 2,
 Blk.mk n_1 94 [Value.int IntKind.i64 z, Value.bool cl, Value.slice p n c] 2]
 w W →
 CallsS Tryz.prog 85 #[Value.slice p n c, Value.func (Fn.func 86) #[] #[Value.pointer (some (Addr.mk n_2 0 none))]] W
 fun (e : Ending) (w' : World) =>
 ∃ (x : Bool), e = Ending.returned (Value.bool x) ∧ KeptL [n_1] W w' ∧ R (Ending.returned (Value.bool x)) w'
theorem vc_achasg (z : Int) (cl : Bool) (p : Option Addr) (n : Nat) (c : Nat) (v : Int) (w : World) (R : Ending → World → Prop) (h : VC_achasg z cl p n c v w R) : Calls Tryz.prog 63 ([Value.agg
    #[Value.int IntKind.i64 z, Value.bool cl, Value.slice p n c],
  Value.int IntKind.i64 v] : List Value).toArray w R := by
  have e : execR2 { P := Tryz.prog, loops := [], pur := pur1, tails := [], joins := [], boxes := [] } Tryz.f63.results.toList R (Tryz.f63.body.getD .skip) (initF [Value.agg
    #[Value.int IntKind.i64 z, Value.bool cl, Value.slice p n c],
  Value.int IntKind.i64
    v] (Tryz.f63.ntmps - ([Value.agg #[Value.int IntKind.i64 z, Value.bool cl, Value.slice p n c],
  Value.int IntKind.i64 v] : List Value).length)) w = VC_achasg z cl p n c v w R := by kernel_rfl
  have hb : Tryz.f63.body = some (Tryz.f63.body.getD .skip) := by kernel_rfl
  exact calls_of_exec2' (P := Tryz.prog) (fn := Tryz.f63) (c := Tryz.f63.body.getD .skip) (args := [Value.agg
    #[Value.int IntKind.i64 z, Value.bool cl, Value.slice p n c],
  Value.int IntKind.i64 v]) (w := w) (R := R) pur1_ok Tryz.func63 hb e h

def VC_acget (b : Nat) (s : ByteArray) (w : World) (R : Ending → World → Prop) : Prop :=
 ∀ (n : Nat) (W : World),
 Loc w.heap.size
 [Blk.mk n 31
 [Value.string (ByteArray.mk #[]), Value.int IntKind.i64 0, Value.int IntKind.i64 0, Value.int IntKind.i64 0,
 Value.bool false]
 2]
 w W →
 CallsS Tryz.prog 45 #[Value.pointer (some (Addr.mk b 0 none)), Value.string s] W fun (e : Ending) (w' : World) =>
 ∃ (x : Int),
 ∃ (x_1 : Bool),
 ∃ (p : Option Addr),
 ∃ (n_1 : Nat),
 ∃ (c : Nat),
 ∃ (x_2 : Int),
 e =
 Ending.returned
 (Value.tuple
 #[Value.agg #[Value.int IntKind.i64 x, Value.bool x_1, Value.slice p n_1 c], Value.int IntKind.i64 x_2]) ∧
 KeptL [n] W w' ∧
 ∀ (n_2 : Nat),
 bsp (x_2 != 0)
 (∀ (W : World),
 Loc w.heap.size
 [Blk.mk n_2 94 [Value.int IntKind.i64 x, Value.bool x_1, Value.slice p n_1 c] (wrM 2),
 Blk.mk n 31
 [Value.string (ByteArray.mk #[]), Value.int IntKind.i64 0, Value.int IntKind.i64 0,
 Value.int IntKind.i64 0, Value.bool false]
 (wrM 0)]
 w' W →
 R
 (Ending.returned
 (Value.tuple
 #[Value.agg
 #[Value.string (ByteArray.mk #[]), Value.int IntKind.i64 0, Value.int IntKind.i64 0,
 Value.int IntKind.i64 0, Value.bool false],
 Value.int IntKind.i64 x_2]))
 W)
 (∀ (n_3 : Nat),
 bsp (decide ((↑n_1 : Int) > 0))
 (nn true p fun (b o : Nat) =>
 ((0 : Int) ≤ 0 ∧ 0 < (↑n_1 : Int)) ∧
 ∃ (x_3 : Int),
 (∀ (W : World),
 Loc w.heap.size
 [Blk.mk n_3 31
 [Value.string s, Value.int IntKind.i64 (IntKind.i64.wrap (x + 1)), Value.int IntKind.i64 x,
 Value.int IntKind.i64 0, Value.bool x_1]
 (wrM 2),
 Blk.mk n_2 94 [Value.int IntKind.i64 x, Value.bool x_1, Value.slice p n_1 c] (wrM 2),
 Blk.mk n 31
 [Value.string (ByteArray.mk #[]), Value.int IntKind.i64 0, Value.int IntKind.i64 0,
 Value.int IntKind.i64 0, Value.bool false]
 0]
 w' W →
 W.cell? (Addr.mk b o none) = some (Value.int IntKind.i64 x_3)) ∧
 ∀ (W : World),
 Loc w.heap.size
 [Blk.mk n_3 31
 [Value.string s, Value.int IntKind.i64 x_3, Value.int IntKind.i64 x, Value.int IntKind.i64 0,
 Value.bool x_1]
 (wrM (wrM 2)),
 Blk.mk n_2 94 [Value.int IntKind.i64 x, Value.bool x_1, Value.slice p n_1 c] (wrM 2),
 Blk.mk n 31
 [Value.string (ByteArray.mk #[]), Value.int IntKind.i64 0, Value.int IntKind.i64 0,
 Value.int IntKind.i64 0, Value.bool false]
 0]
 w' W →
 ∃ (I : List Value → World → Prop),
 ∃ (m : List Value → World → Nat),
 I [Value.int IntKind.i64 0] W ∧
 ∀ (x_4 : Int) (w' : World),
 I [Value.int IntKind.i64 x_4] w' →
 Loc w.heap.size
 [Blk.mk n_2 94 [Value.int IntKind.i64 x, Value.bool x_1, Value.slice p n_1 c] 0,
 Blk.mk n 31
 [Value.string (ByteArray.mk #[]), Value.int IntKind.i64 0, Value.int IntKind.i64 0,
 Value.int IntKind.i64 0, Value.bool false]
 0]
 w' w' →
 bsp (decide (x_4 < (↑n_1 : Int)))
 (nn true p fun (b o : Nat) =>
 (0 ≤ x_4 ∧ x_4 < (↑n_1 : Int)) ∧
 ∃ (x_5 : Int),
 ∃ (x_6 : Int),
 AtL w' b (o + x_4.toNat * 2) [Value.int IntKind.i64 x_5, Value.int IntKind.i64 x_6] ∧
 ∀ (n_4 : Nat),
 ∃ (x_7 : Int),
 (∀ (W : World),
 Loc w.heap.size
 [Blk.mk n_2 94 [Value.int IntKind.i64 x, Value.bool x_1, Value.slice p n_1 c] 0,
 Blk.mk n 31
 [Value.string (ByteArray.mk #[]), Value.int IntKind.i64 0,
 Value.int IntKind.i64 0, Value.int IntKind.i64 0, Value.bool false]
 0,
 Blk.mk n_4 105 [Value.int IntKind.i64 x_5, Value.int IntKind.i64 x_6] (wrM 2)]
 w' W →
 W.cell? (Addr.mk n_3 (0 + 3) none) = some (Value.int IntKind.i64 x_7)) ∧
 ∀ (W : World),
 Loc w.heap.size
 [Blk.mk n_2 94 [Value.int IntKind.i64 x, Value.bool x_1, Value.slice p n_1 c] 0,
 Blk.mk n 31
 [Value.string (ByteArray.mk #[]), Value.int IntKind.i64 0,
 Value.int IntKind.i64 0, Value.int IntKind.i64 0, Value.bool false]
 0,
 Blk.mk n_4 105 [Value.int IntKind.i64 x_5, Value.int IntKind.i64 x_6] (wrM 2)]
 w' W →
 ((∃ (u : Value), W.cell? (Addr.mk n_3 (0 + 3) none) = some u) ∧
 W.frozen? (Addr.mk n_3 (0 + 3) none) = false) ∧
 ∀ (w1 : World),
 PutB W n_3 (0 + 3)
 [Value.int IntKind.i64
 (IntKind.i64.wrap
 (x_7 + IntKind.i64.wrap (IntKind.i64.wrap (x_6 - x_5) + 1)))]
 w1 →
 KeptL [n_2, n, n_4] W w1 ∧
 I [Value.int IntKind.i64 (IntKind.i64.wrap (x_4 + 1))] w1 ∧
 m [Value.int IntKind.i64 (IntKind.i64.wrap (x_4 + 1))] w1 <
 m [Value.int IntKind.i64 x_4] w')
 (∃ (x_5 : ByteArray),
 ∃ (x_6 : Int),
 ∃ (x_7 : Int),
 ∃ (x_8 : Int),
 ∃ (x_9 : Bool),
 AtL w' n_3 0
 [Value.string x_5, Value.int IntKind.i64 x_6, Value.int IntKind.i64 x_7,
 Value.int IntKind.i64 x_8, Value.bool x_9] ∧
 ∀ (W : World),
 Loc w.heap.size
 [Blk.mk n_2 94 [Value.int IntKind.i64 x, Value.bool x_1, Value.slice p n_1 c] 0,
 Blk.mk n 31
 [Value.string x_5, Value.int IntKind.i64 x_6, Value.int IntKind.i64 x_7,
 Value.int IntKind.i64 x_8, Value.bool x_9]
 (wrM 0)]
 w' W →
 R
 (Ending.returned
 (Value.tuple
 #[Value.agg
 #[Value.string x_5, Value.int IntKind.i64 x_6, Value.int IntKind.i64 x_7,
 Value.int IntKind.i64 x_8, Value.bool x_9],
 Value.int IntKind.i64 0]))
 W))
 (∀ (W : World),
 Loc w.heap.size
 [Blk.mk n_3 31
 [Value.string s, Value.int IntKind.i64 (IntKind.i64.wrap (x + 1)), Value.int IntKind.i64 x,
 Value.int IntKind.i64 0, Value.bool x_1]
 (wrM 2),
 Blk.mk n_2 94 [Value.int IntKind.i64 x, Value.bool x_1, Value.slice p n_1 c] (wrM 2),
 Blk.mk n 31
 [Value.string (ByteArray.mk #[]), Value.int IntKind.i64 0, Value.int IntKind.i64 0,
 Value.int IntKind.i64 0, Value.bool false]
 0]
 w' W →
 ∃ (I : List Value → World → Prop),
 ∃ (m : List Value → World → Nat),
 I [Value.int IntKind.i64 0] W ∧
 ∀ (x_3 : Int) (w' : World),
 I [Value.int IntKind.i64 x_3] w' →
 Loc w.heap.size
 [Blk.mk n_2 94 [Value.int IntKind.i64 x, Value.bool x_1, Value.slice p n_1 c] 0,
 Blk.mk n 31
 [Value.string (ByteArray.mk #[]), Value.int IntKind.i64 0, Value.int IntKind.i64 0,
 Value.int IntKind.i64 0, Value.bool false]
 0]
 w' w' →
 bsp (decide (x_3 < (↑n_1 : Int)))
 (nn true p fun (b o : Nat) =>
 (0 ≤ x_3 ∧ x_3 < (↑n_1 : Int)) ∧
 ∃ (x_4 : Int),
 ∃ (x_5 : Int),
 AtL w' b (o + x_3.toNat * 2) [Value.int IntKind.i64 x_4, Value.int IntKind.i64 x_5] ∧
 ∀ (n_4 : Nat),
 ∃ (x_6 : Int),
 (∀ (W : World),
 Loc w.heap.size
 [Blk.mk n_2 94 [Value.int IntKind.i64 x, Value.bool x_1, Value.slice p n_1 c] 0,
 Blk.mk n 31
 [Value.string (ByteArray.mk #[]), Value.int IntKind.i64 0, Value.int IntKind.i64 0,
 Value.int IntKind.i64 0, Value.bool false]
 0,
 Blk.mk n_4 105 [Value.int IntKind.i64 x_4, Value.int IntKind.i64 x_5] (wrM 2)]
 w' W →
 W.cell? (Addr.mk n_3 (0 + 3) none) = some (Value.int IntKind.i64 x_6)) ∧
 ∀ (W : World),
 Loc w.heap.size
 [Blk.mk n_2 94 [Value.int IntKind.i64 x, Value.bool x_1, Value.slice p n_1 c] 0,
 Blk.mk n 31
 [Value.string (ByteArray.mk #[]), Value.int IntKind.i64 0, Value.int IntKind.i64 0,
 Value.int IntKind.i64 0, Value.bool false]
 0,
 Blk.mk n_4 105 [Value.int IntKind.i64 x_4, Value.int IntKind.i64 x_5] (wrM 2)]
 w' W →
 ((∃ (u : Value), W.cell? (Addr.mk n_3 (0 + 3) none) = some u) ∧
 W.frozen? (Addr.mk n_3 (0 + 3) none) = false) ∧
 ∀ (w1 : World),
 PutB W n_3 (0 + 3)
 [Value.int IntKind.i64
 (IntKind.i64.wrap (x_6 + IntKind.i64.wrap (IntKind.i64.wrap (x_5 - x_4) + 1)))]
 w1 →
 KeptL [n_2, n, n_4] W w1 ∧
 I [Value.int IntKind.i64 (IntKind.i64.wrap (x_3 + 1))] w1 ∧
 m [Value.int IntKind.i64 (IntKind.i64.wrap (x_3 + 1))] w1 <
 m [Value.int IntKind.i64 x_3] w')
 (∃ (x_4 : ByteArray),
 ∃ (x_5 : Int),
 ∃ (x_6 : Int),
 ∃ (x_7 : Int),
 ∃ (x_8 : Bool),
 AtL w' n_3 0
 [Value.string x_4, Value.int IntKind.i64 x_5, Value.int IntKind.i64 x_6,
 Value.int IntKind.i64 x_7, Value.bool x_8] ∧
 ∀ (W : World),
 Loc w.heap.size
 [Blk.mk n_2 94 [Value.int IntKind.i64 x, Value.bool x_1, Value.slice p n_1 c] 0,
 Blk.mk n 31
 [Value.string x_4, Value.int IntKind.i64 x_5, Value.int IntKind.i64 x_6,
 Value.int IntKind.i64 x_7, Value.bool x_8]
 (wrM 0)]
 w' W →
 R
 (Ending.returned
 (Value.tuple
 #[Value.agg
 #[Value.string x_4, Value.int IntKind.i64 x_5, Value.int IntKind.i64 x_6,
 Value.int IntKind.i64 x_7, Value.bool x_8],
 Value.int IntKind.i64 0]))
 W)))
theorem vc_acget (b : Nat) (s : ByteArray) (w : World) (R : Ending → World → Prop) (h : VC_acget b s w R) : Calls Tryz.prog 16 ([Value.pointer
    (some { block := b, off := 0 }),
  Value.string s] : List Value).toArray w R := by
  have e : execR2 { P := Tryz.prog, loops := [(8, [(43, Ck.int IntKind.i64)])], pur := pur1, tails := [], joins := [], boxes := [] } Tryz.f16.results.toList R (Tryz.f16.body.getD .skip) (initF [Value.pointer
    (some { block := b, off := 0 }),
  Value.string
    s] (Tryz.f16.ntmps - ([Value.pointer (some { block := b, off := 0 }),
  Value.string s] : List Value).length)) w = VC_acget b s w R := by kernel_rfl
  have hb : Tryz.f16.body = some (Tryz.f16.body.getD .skip) := by kernel_rfl
  exact calls_of_exec2' (P := Tryz.prog) (fn := Tryz.f16) (c := Tryz.f16.body.getD .skip) (args := [Value.pointer
    (some { block := b, off := 0 }),
  Value.string s]) (w := w) (R := R) pur1_ok Tryz.func16 hb e h

def VC_achas (b : Nat) (s : ByteArray) (v : Int) (w : World) (R : Ending → World → Prop) : Prop :=
 ∀ (n : Nat) (W : World),
 Loc w.heap.size [Blk.mk n 64 [Value.string s, Value.int IntKind.i64 v] 2] w W →
 CallsS Tryz.prog 45 #[Value.pointer (some (Addr.mk b 0 none)), Value.string s] W fun (e : Ending) (w' : World) =>
 ∃ (x : Int),
 ∃ (x_1 : Bool),
 ∃ (p : Option Addr),
 ∃ (n_1 : Nat),
 ∃ (c : Nat),
 ∃ (x_2 : Int),
 e =
 Ending.returned
 (Value.tuple
 #[Value.agg #[Value.int IntKind.i64 x, Value.bool x_1, Value.slice p n_1 c], Value.int IntKind.i64 x_2]) ∧
 KeptL [n] W w' ∧
 ∀ (n_2 : Nat),
 ∃ (x_3 : Int),
 gimp (x_2 == 0)
 (∀ (W : World),
 Loc w.heap.size
 [Blk.mk n_2 94 [Value.int IntKind.i64 x, Value.bool x_1, Value.slice p n_1 c] (wrM 2),
 Blk.mk n 64 [Value.string s, Value.int IntKind.i64 v] 0]
 w' W →
 W.cell? (Addr.mk n (0 + 1) none) = some (Value.int IntKind.i64 x_3)) ∧
 ∀ (W : World),
 Loc w.heap.size
 [Blk.mk n_2 94 [Value.int IntKind.i64 x, Value.bool x_1, Value.slice p n_1 c] (wrM 2),
 Blk.mk n 64 [Value.string s, Value.int IntKind.i64 v] 0]
 w' W →
 bsp (x_2 == 0)
 (CallsS Tryz.prog 63
 #[Value.agg #[Value.int IntKind.i64 x, Value.bool x_1, Value.slice p n_1 c],
 Value.int IntKind.i64 x_3]
 W fun (e : Ending) (w' : World) =>
 ∃ (x : Bool),
 e = Ending.returned (Value.bool x) ∧
 KeptL [n_2, n] W w' ∧ R (Ending.returned (Value.bool (true && x))) w')
 (KeptL [n_2, n] W W ∧ R (Ending.returned (Value.bool false)) W)
theorem vc_achas (b : Nat) (s : ByteArray) (v : Int) (w : World) (R : Ending → World → Prop) (h : VC_achas b s v w R) : Calls Tryz.prog 30 ([Value.pointer
    (some { block := b, off := 0 }),
  Value.agg #[Value.string s, Value.int IntKind.i64 v]] : List Value).toArray w R := by
  have e : execR2 { P := Tryz.prog, loops := [], pur := pur1, tails := [], joins := [], boxes := [] } Tryz.f30.results.toList R (Tryz.f30.body.getD .skip) (initF [Value.pointer
    (some { block := b, off := 0 }),
  Value.agg
    #[Value.string s,
      Value.int IntKind.i64
        v]] (Tryz.f30.ntmps - ([Value.pointer (some { block := b, off := 0 }),
  Value.agg #[Value.string s, Value.int IntKind.i64 v]] : List Value).length)) w = VC_achas b s v w R := by kernel_rfl
  have hb : Tryz.f30.body = some (Tryz.f30.body.getD .skip) := by kernel_rfl
  exact calls_of_exec2' (P := Tryz.prog) (fn := Tryz.f30) (c := Tryz.f30.body.getD .skip) (args := [Value.pointer
    (some { block := b, off := 0 }),
  Value.agg #[Value.string s, Value.int IntKind.i64 v]]) (w := w) (R := R) pur1_ok Tryz.func30 hb e h

def VC_acnums (b : Nat) (s : ByteArray) (u : Int) (v : Int) (w : World) (R : Ending → World → Prop) : Prop :=
 CallsS Tryz.prog 45 #[Value.pointer (some (Addr.mk b 0 none)), Value.string s] w fun (e : Ending) (w' : World) =>
 ∃ (x : Int),
 ∃ (x_1 : Bool),
 ∃ (p : Option Addr),
 ∃ (n : Nat),
 ∃ (c : Nat),
 ∃ (x_2 : Int),
 e =
 Ending.returned
 (Value.tuple
 #[Value.agg #[Value.int IntKind.i64 x, Value.bool x_1, Value.slice p n c], Value.int IntKind.i64 x_2]) ∧
 KeptL [] w w' ∧
 ∀ (n_1 : Nat),
 bsp (x_2 != 0)
 (∀ (W : World),
 Loc w.heap.size [Blk.mk n_1 94 [Value.int IntKind.i64 x, Value.bool x_1, Value.slice p n c] (wrM 2)] w' W →
 R (Ending.returned (Value.tuple #[Value.slice none 0 0, Value.int IntKind.i64 x_2])) W)
 (∀ (W : World),
 Loc w.heap.size [Blk.mk n_1 94 [Value.int IntKind.i64 x, Value.bool x_1, Value.slice p n c] (wrM 2)] w' W →
 ∃ (I : List Value → World → Prop),
 ∃ (m : List Value → World → Nat),
 I [Value.slice none 0 0, Value.int IntKind.i64 0] W ∧
 ∀ (p_1 : Option Addr) (n_2 c_1 : Nat) (x_3 : Int) (w' : World),
 I [Value.slice p_1 n_2 c_1, Value.int IntKind.i64 x_3] w' →
 Loc w.heap.size [Blk.mk n_1 94 [Value.int IntKind.i64 x, Value.bool x_1, Value.slice p n c] 0] w' w' →
 bsp (decide (x_3 < (↑n : Int)))
 (nn true p fun (b o : Nat) =>
 (0 ≤ x_3 ∧ x_3 < (↑n : Int)) ∧
 ∃ (x_4 : Int),
 ∃ (x_5 : Int),
 AtL w' b (o + x_3.toNat * 2) [Value.int IntKind.i64 x_4, Value.int IntKind.i64 x_5] ∧
 ∀ (n_3 : Nat) (W : World),
 Loc w.heap.size
 [Blk.mk n_1 94 [Value.int IntKind.i64 x, Value.bool x_1, Value.slice p n c] 0,
 Blk.mk n_3 105 [Value.int IntKind.i64 x_4, Value.int IntKind.i64 x_5] (wrM 2)]
 w' W →
 ∃ (I_1 : List Value → World → Prop),
 ∃ (m_1 : List Value → World → Nat),
 I_1 [Value.int IntKind.i64 (if u > x_4 then u else x_4), Value.slice p_1 n_2 c_1] W ∧
 ∀ (x_6 : Int) (p_2 : Option Addr) (n_4 c_2 : Nat) (w'_1 : World),
 I_1 [Value.int IntKind.i64 x_6, Value.slice p_2 n_4 c_2] w'_1 →
 Loc w.heap.size
 [Blk.mk n_1 94 [Value.int IntKind.i64 x, Value.bool x_1, Value.slice p n c] 0,
 Blk.mk n_3 105 [Value.int IntKind.i64 x_4, Value.int IntKind.i64 x_5] 0]
 w'_1 w'_1 →
 bsp (decide (x_6 ≤ if v < x_5 then v else x_5))
 (∀ (n_5 : Nat) (W : World),
 Loc w.heap.size
 [Blk.mk n_1 94 [Value.int IntKind.i64 x, Value.bool x_1, Value.slice p n c] 0,
 Blk.mk n_3 105 [Value.int IntKind.i64 x_4, Value.int IntKind.i64 x_5] 0,
 Blk.mk n_5 3 [Value.int IntKind.i64 x_6] 2]
 w'_1 W →
 ∃ (base : Nat),
 ∃ (xs : List Value),
 W.ownsRow base 3 1 (Value.slice p_2 n_4 c_2) n_4 xs ∧
 n_4 + 1 ≤ 9223372036854775807 ∧
 (n_4 + 1) * 8 ≤ 140737488355328 ∧
 base ≤ W.heap.size ∧
 ∀ (p' : Option Addr) (c' : Nat) (w' : World),
 w'.ownsRow base 3 1 (Value.slice p' (n_4 + 1) c') (n_4 + 1)
 (xs ++ [Value.int IntKind.i64 x_6]) →
 W.grownBy w' (Value.slice p_2 n_4 c_2).ownBlock →
 AppL W p_2 n_4 c_2 1 p' c' →
 KeptL [n_1, n_3] W w' ∧
 I_1
 [Value.int IntKind.i64 (IntKind.i64.wrap (x_6 + 1)),
 Value.slice p' (n_4 + 1) c']
 w' ∧
 m_1
 [Value.int IntKind.i64 (IntKind.i64.wrap (x_6 + 1)),
 Value.slice p' (n_4 + 1) c']
 w' <
 m_1 [Value.int IntKind.i64 x_6, Value.slice p_2 n_4 c_2] w'_1)
 (I [Value.slice p_2 n_4 c_2, Value.int IntKind.i64 (IntKind.i64.wrap (x_3 + 1))]
 w'_1 ∧
 m [Value.slice p_2 n_4 c_2, Value.int IntKind.i64 (IntKind.i64.wrap (x_3 + 1))]
 w'_1 <
 m [Value.slice p_1 n_2 c_1, Value.int IntKind.i64 x_3] w'))
 (R (Ending.returned (Value.tuple #[Value.slice p_1 n_2 c_1, Value.int IntKind.i64 0])) w'))
theorem vc_acnums (b : Nat) (s : ByteArray) (u : Int) (v : Int) (w : World) (R : Ending → World → Prop) (h : VC_acnums b s u v w R) : Calls Tryz.prog 34 ([Value.pointer
    (some { block := b, off := 0 }),
  Value.string s, Value.int IntKind.i64 u, Value.int IntKind.i64 v] : List Value).toArray w R := by
  have e : execR2 { P := Tryz.prog, loops := [(6, [(12, Ck.slice), (28, Ck.int IntKind.i64)]), (9, [(15, Ck.int IntKind.i64), (12, Ck.slice)])], pur := pur1, tails := [], joins := [], boxes := [] } Tryz.f34.results.toList R (Tryz.f34.body.getD .skip) (initF [Value.pointer
    (some { block := b, off := 0 }),
  Value.string s, Value.int IntKind.i64 u,
  Value.int IntKind.i64
    v] (Tryz.f34.ntmps - ([Value.pointer (some { block := b, off := 0 }), Value.string s, Value.int IntKind.i64 u,
  Value.int IntKind.i64 v] : List Value).length)) w = VC_acnums b s u v w R := by kernel_rfl
  have hb : Tryz.f34.body = some (Tryz.f34.body.getD .skip) := by kernel_rfl
  exact calls_of_exec2' (P := Tryz.prog) (fn := Tryz.f34) (c := Tryz.f34.body.getD .skip) (args := [Value.pointer
    (some { block := b, off := 0 }),
  Value.string s, Value.int IntKind.i64 u, Value.int IntKind.i64 v]) (w := w) (R := R) pur1_ok Tryz.func34 hb e h

def VC_acnbr (b : Nat) (s : ByteArray) (v : Int) (fw : Bool) (w : World) (R : Ending → World → Prop) : Prop :=
 ∀ (n : Nat) (W : World),
 Loc w.heap.size [Blk.mk n 64 [Value.string s, Value.int IntKind.i64 v] 2] w W →
 CallsS Tryz.prog 45 #[Value.pointer (some (Addr.mk b 0 none)), Value.string s] W fun (e : Ending) (w' : World) =>
 ∃ (x : Int),
 ∃ (x_1 : Bool),
 ∃ (p : Option Addr),
 ∃ (n_1 : Nat),
 ∃ (c : Nat),
 ∃ (x_2 : Int),
 e =
 Ending.returned
 (Value.tuple
 #[Value.agg #[Value.int IntKind.i64 x, Value.bool x_1, Value.slice p n_1 c], Value.int IntKind.i64 x_2]) ∧
 KeptL [n] W w' ∧
 ∀ (n_2 : Nat),
 bsp (x_2 != 0)
 (∀ (W : World),
 Loc w.heap.size
 [Blk.mk n_2 94 [Value.int IntKind.i64 x, Value.bool x_1, Value.slice p n_1 c] (wrM 2),
 Blk.mk n 64 [Value.string s, Value.int IntKind.i64 v] 0]
 w' W →
 R (Ending.returned (Value.tuple #[Value.int IntKind.i64 0, Value.int IntKind.i64 x_2])) W)
 (∀ (W : World),
 Loc w.heap.size
 [Blk.mk n_2 94 [Value.int IntKind.i64 x, Value.bool x_1, Value.slice p n_1 c] (wrM 2),
 Blk.mk n 64 [Value.string s, Value.int IntKind.i64 v] 0]
 w' W →
 ∃ (I : List Value → World → Prop),
 ∃ (m : List Value → World → Nat),
 I [Value.int IntKind.i64 0] W ∧
 ∀ (x_3 : Int) (w' : World),
 I [Value.int IntKind.i64 x_3] w' →
 Loc w.heap.size
 [Blk.mk n_2 94 [Value.int IntKind.i64 x, Value.bool x_1, Value.slice p n_1 c] 0,
 Blk.mk n 64 [Value.string s, Value.int IntKind.i64 v] 0]
 w' w' →
 bsp (decide (x_3 < (↑n_1 : Int)))
 (nn true p fun (b o : Nat) =>
 (0 ≤ x_3 ∧ x_3 < (↑n_1 : Int)) ∧
 ∃ (x_4 : Int),
 ∃ (x_5 : Int),
 AtL w' b (o + x_3.toNat * 2) [Value.int IntKind.i64 x_4, Value.int IntKind.i64 x_5] ∧
 ∀ (n_3 : Nat),
 ∃ (x_6 : Int),
 gimp fw
 (∀ (W : World),
 Loc w.heap.size
 [Blk.mk n_2 94 [Value.int IntKind.i64 x, Value.bool x_1, Value.slice p n_1 c] 0,
 Blk.mk n 64 [Value.string s, Value.int IntKind.i64 v] 0,
 Blk.mk n_3 105 [Value.int IntKind.i64 x_4, Value.int IntKind.i64 x_5] (wrM 2)]
 w' W →
 W.cell? (Addr.mk n_3 (0 + 1) none) = some (Value.int IntKind.i64 x_6)) ∧
 ∃ (x_7 : Int),
 gimp fw
 (∀ (W : World),
 Loc w.heap.size
 [Blk.mk n_2 94 [Value.int IntKind.i64 x, Value.bool x_1, Value.slice p n_1 c] 0,
 Blk.mk n 64 [Value.string s, Value.int IntKind.i64 v] 0,
 Blk.mk n_3 105 [Value.int IntKind.i64 x_4, Value.int IntKind.i64 x_5] (wrM 2)]
 w' W →
 W.cell? (Addr.mk n (0 + 1) none) = some (Value.int IntKind.i64 x_7)) ∧
 bsp (fw && decide (x_6 > x_7))
 (∀ (W : World),
 Loc w.heap.size
 [Blk.mk n_2 94 [Value.int IntKind.i64 x, Value.bool x_1, Value.slice p n_1 c] 0,
 Blk.mk n 64 [Value.string s, Value.int IntKind.i64 v] 0,
 Blk.mk n_3 105 [Value.int IntKind.i64 x_4, Value.int IntKind.i64 x_5] (wrM 2)]
 w' W →
 R
 (Ending.returned
 (Value.tuple
 #[Value.int IntKind.i64
 (if IntKind.i64.wrap (v + 1) > x_4 then IntKind.i64.wrap (v + 1) else x_4),
 Value.int IntKind.i64 0]))
 W)
 (nn true p fun (b o : Nat) =>
 (0 ≤ IntKind.i64.wrap (IntKind.i64.wrap ((↑n_1 : Int) - 1) - x_3) ∧
 IntKind.i64.wrap (IntKind.i64.wrap ((↑n_1 : Int) - 1) - x_3) < (↑n_1 : Int)) ∧
 ∃ (x_8 : Int),
 ∃ (x_9 : Int),
 (∀ (W : World),
 Loc w.heap.size
 [Blk.mk n_2 94 [Value.int IntKind.i64 x, Value.bool x_1, Value.slice p n_1 c]
 0,
 Blk.mk n 64 [Value.string s, Value.int IntKind.i64 v] 0,
 Blk.mk n_3 105 [Value.int IntKind.i64 x_4, Value.int IntKind.i64 x_5] (wrM 2)]
 w' W →
 AtL W b
 (o + (IntKind.i64.wrap (IntKind.i64.wrap ((↑n_1 : Int) - 1) - x_3)).toNat * 2)
 [Value.int IntKind.i64 x_8, Value.int IntKind.i64 x_9]) ∧
 ∀ (n_4 : Nat),
 ∃ (x_10 : Int),
 gimp (!fw)
 (∀ (W : World),
 Loc w.heap.size
 [Blk.mk n_2 94
 [Value.int IntKind.i64 x, Value.bool x_1, Value.slice p n_1 c] 0,
 Blk.mk n 64 [Value.string s, Value.int IntKind.i64 v] 0,
 Blk.mk n_4 105 [Value.int IntKind.i64 x_8, Value.int IntKind.i64 x_9]
 (wrM 2),
 Blk.mk n_3 105 [Value.int IntKind.i64 x_4, Value.int IntKind.i64 x_5]
 (wrM 2)]
 w' W →
 W.cell? (Addr.mk n_4 0 none) = some (Value.int IntKind.i64 x_10)) ∧
 ∃ (x_11 : Int),
 gimp (!fw)
 (∀ (W : World),
 Loc w.heap.size
 [Blk.mk n_2 94
 [Value.int IntKind.i64 x, Value.bool x_1, Value.slice p n_1 c] 0,
 Blk.mk n 64 [Value.string s, Value.int IntKind.i64 v] 0,
 Blk.mk n_4 105 [Value.int IntKind.i64 x_8, Value.int IntKind.i64 x_9]
 (wrM 2),
 Blk.mk n_3 105 [Value.int IntKind.i64 x_4, Value.int IntKind.i64 x_5]
 (wrM 2)]
 w' W →
 W.cell? (Addr.mk n (0 + 1) none) = some (Value.int IntKind.i64 x_11)) ∧
 bsp (!fw && decide (x_10 < x_11))
 (∀ (W : World),
 Loc w.heap.size
 [Blk.mk n_2 94
 [Value.int IntKind.i64 x, Value.bool x_1, Value.slice p n_1 c] 0,
 Blk.mk n 64 [Value.string s, Value.int IntKind.i64 v] 0,
 Blk.mk n_4 105 [Value.int IntKind.i64 x_8, Value.int IntKind.i64 x_9]
 (wrM 2),
 Blk.mk n_3 105 [Value.int IntKind.i64 x_4, Value.int IntKind.i64 x_5]
 (wrM 2)]
 w' W →
 R
 (Ending.returned
 (Value.tuple
 #[Value.int IntKind.i64
 (if IntKind.i64.wrap (v - 1) < x_9 then IntKind.i64.wrap (v - 1)
 else x_9),
 Value.int IntKind.i64 0]))
 W)
 (∀ (W : World),
 Loc w.heap.size
 [Blk.mk n_2 94
 [Value.int IntKind.i64 x, Value.bool x_1, Value.slice p n_1 c] 0,
 Blk.mk n 64 [Value.string s, Value.int IntKind.i64 v] 0,
 Blk.mk n_4 105 [Value.int IntKind.i64 x_8, Value.int IntKind.i64 x_9]
 (wrM 2),
 Blk.mk n_3 105 [Value.int IntKind.i64 x_4, Value.int IntKind.i64 x_5]
 (wrM 2)]
 w' W →
 I [Value.int IntKind.i64 (IntKind.i64.wrap (x_3 + 1))] W ∧
 m [Value.int IntKind.i64 (IntKind.i64.wrap (x_3 + 1))] W <
 m [Value.int IntKind.i64 x_3] w')))
 (R (Ending.returned (Value.tuple #[Value.int IntKind.i64 0, Value.int IntKind.i64 8])) w'))
theorem vc_acnbr (b : Nat) (s : ByteArray) (v : Int) (fw : Bool) (w : World) (R : Ending → World → Prop) (h : VC_acnbr b s v fw w R) : Calls Tryz.prog 36 ([Value.pointer
    (some { block := b, off := 0 }),
  Value.agg #[Value.string s, Value.int IntKind.i64 v], Value.bool fw] : List Value).toArray w R := by
  have e : execR2 { P := Tryz.prog, loops := [(5, [(9, Ck.int IntKind.i64)])], pur := pur1, tails := [], joins := [], boxes := [] } Tryz.f36.results.toList R (Tryz.f36.body.getD .skip) (initF [Value.pointer
    (some { block := b, off := 0 }),
  Value.agg #[Value.string s, Value.int IntKind.i64 v],
  Value.bool
    fw] (Tryz.f36.ntmps - ([Value.pointer (some { block := b, off := 0 }),
  Value.agg #[Value.string s, Value.int IntKind.i64 v],
  Value.bool fw] : List Value).length)) w = VC_acnbr b s v fw w R := by kernel_rfl
  have hb : Tryz.f36.body = some (Tryz.f36.body.getD .skip) := by kernel_rfl
  exact calls_of_exec2' (P := Tryz.prog) (fn := Tryz.f36) (c := Tryz.f36.body.getD .skip) (args := [Value.pointer
    (some { block := b, off := 0 }),
  Value.agg #[Value.string s, Value.int IntKind.i64 v], Value.bool fw]) (w := w) (R := R) pur1_ok Tryz.func36 hb e h

def VC_acgroups (b : Nat) (w : World) (R : Ending → World → Prop) : Prop :=
 ∃ (x : Option Nat),
 w.cell? (Addr.mk b 0 none) = some (Value.map x) ∧
 ∃ (n : Nat),
 ∃ (w1 : World),
 RngP Tryz.prog 97 (Value.map x) n w w1 ∧
 KeptL [] w w1 ∧
 ∃ (I : List Value → World → Prop),
 ∃ (m : List Value → World → Nat),
 I [Value.slice none 0 0] w1 ∧
 ∀ (p : Option Addr) (n_1 c : Nat) (w' : World),
 I [Value.slice p n_1 c] w' →
 ∃ (b : Bool),
 ∃ (r : List Value),
 ∃ (w1 : World),
 NxtP Tryz.prog (Value.pointer (some (Addr.mk n 0 none))) b r w' w1 ∧
 KeptL [] w' w1 ∧
 bsp b
 (∃ (x : ByteArray),
 ∃ (x_1 : Int),
 ∃ (x_2 : Bool),
 ∃ (p_1 : Option Addr),
 ∃ (n_2 : Nat),
 ∃ (c_1 : Nat),
 EntP Tryz.prog (Value.pointer (some (Addr.mk n 0 none)))
 (Value.tuple
 #[Value.string x,
 Value.agg #[Value.int IntKind.i64 x_1, Value.bool x_2, Value.slice p_1 n_2 c_1]])
 w1 ∧
 ∀ (n : Nat) (W : World),
 Loc w.heap.size [Blk.mk n 9 [Value.string x] 2] w1 W →
 ∃ (base : Nat),
 ∃ (xs : List Value),
 W.ownsRow base 9 1 (Value.slice p n_1 c) n_1 xs ∧
 n_1 + 1 ≤ 9223372036854775807 ∧
 (n_1 + 1) * 16 ≤ 140737488355328 ∧
 base ≤ W.heap.size ∧
 ∀ (p' : Option Addr) (c' : Nat) (w'_1 : World),
 w'_1.ownsRow base 9 1 (Value.slice p' (n_1 + 1) c') (n_1 + 1)
 (xs ++ [Value.string x]) →
 W.grownBy w'_1 (Value.slice p n_1 c).ownBlock →
 AppL W p n_1 c 1 p' c' →
 KeptL [] W w'_1 ∧
 I [Value.slice p' (n_1 + 1) c'] w'_1 ∧
 m [Value.slice p' (n_1 + 1) c'] w'_1 < m [Value.slice p n_1 c] w')
 (CallsS Tryz.prog 51 #[Value.slice p n_1 c, Value.func (Fn.func 52) #[] #[]] w1
 fun (e : Ending) (w' : World) =>
 e = Ending.returned (Value.tuple #[]) ∧ KeptL [] w1 w' ∧ R (Ending.returned (Value.slice p n_1 c)) w')
theorem vc_acgroups (b : Nat) (w : World) (R : Ending → World → Prop) (h : VC_acgroups b w R) : Calls Tryz.prog 18 ([Value.pointer
    (some { block := b, off := 0 })] : List Value).toArray w R := by
  have e : execR2 { P := Tryz.prog, loops := [(5, [(3, Ck.slice)])], pur := pur1, tails := [], joins := [], boxes := [], rngs := [(11, 97)] } Tryz.f18.results.toList R (Tryz.f18.body.getD .skip) (initF [Value.pointer
    (some
      { block := b,
        off :=
          0 })] (Tryz.f18.ntmps - ([Value.pointer
    (some { block := b, off := 0 })] : List Value).length)) w = VC_acgroups b w R := by kernel_rfl
  have hb : Tryz.f18.body = some (Tryz.f18.body.getD .skip) := by kernel_rfl
  exact calls_of_exec2' (P := Tryz.prog) (fn := Tryz.f18) (c := Tryz.f18.body.getD .skip) (args := [Value.pointer
    (some { block := b, off := 0 })]) (w := w) (R := R) pur1_ok Tryz.func18 hb e h

def VC_acclone (b : Nat) (w : World) (R : Ending → World → Prop) : Prop :=
 CallsS Tryz.prog 19 #[] w fun (e : Ending) (w' : World) =>
 ∃ (x : Option Addr),
 e = Ending.returned (Value.pointer x) ∧
 KeptL [] w w' ∧
 ∃ (x_1 : Option Nat),
 w'.cell? (Addr.mk b 0 none) = some (Value.map x_1) ∧
 ∃ (n : Nat),
 ∃ (w1 : World),
 RngP Tryz.prog 97 (Value.map x_1) n w' w1 ∧
 KeptL [] w' w1 ∧
 ∃ (I : List Value → World → Prop),
 ∃ (m : List Value → World → Nat),
 I [] w1 ∧
 ∀ (w' : World),
 I [] w' →
 ∃ (b : Bool),
 ∃ (r : List Value),
 ∃ (w1 : World),
 NxtP Tryz.prog (Value.pointer (some (Addr.mk n 0 none))) b r w' w1 ∧
 KeptL [] w' w1 ∧
 bsp b
 (∃ (x_2 : ByteArray),
 ∃ (x_3 : Int),
 ∃ (x_4 : Bool),
 ∃ (p : Option Addr),
 ∃ (n_1 : Nat),
 ∃ (c : Nat),
 EntP Tryz.prog (Value.pointer (some (Addr.mk n 0 none)))
 (Value.tuple
 #[Value.string x_2,
 Value.agg #[Value.int IntKind.i64 x_3, Value.bool x_4, Value.slice p n_1 c]])
 w1 ∧
 ∀ (n : Nat) (W : World),
 Loc w.heap.size
 [Blk.mk n 94 [Value.int IntKind.i64 x_3, Value.bool x_4, Value.slice p n_1 c] (wrM 2)] w1
 W →
 CallsS Tryz.prog 66 #[Value.slice p n_1 c] W fun (e : Ending) (w'_1 : World) =>
 ∃ (p : Option Addr),
 ∃ (n_2 : Nat),
 ∃ (c : Nat),
 e = Ending.returned (Value.slice p n_2 c) ∧
 KeptL [n] W w'_1 ∧
 nn true x fun (b o : Nat) =>
 ∃ (x : Option Nat),
 (∀ (W : World),
 Loc w.heap.size
 [Blk.mk n 94 [Value.int IntKind.i64 x_3, Value.bool x_4, Value.slice p n_2 c]
 (wrM 0)]
 w'_1 W →
 W.cell? (Addr.mk b o none) = some (Value.map x)) ∧
 ∀ (W : World),
 Loc w.heap.size
 [Blk.mk n 94 [Value.int IntKind.i64 x_3, Value.bool x_4, Value.slice p n_2 c]
 (wrM 0)]
 w'_1 W →
 ∃ (w1 : World),
 UpdP Tryz.prog 97 (Value.map x) (Value.string x_2)
 (Value.agg
 #[Value.int IntKind.i64 x_3, Value.bool x_4, Value.slice p n_2 c])
 W w1 ∧
 KeptL [n] W w1 ∧ I [] w1 ∧ m [] w1 < m [] w')
 (R (Ending.returned (Value.pointer x)) w1)
theorem vc_acclone (b : Nat) (w : World) (R : Ending → World → Prop) (h : VC_acclone b w R) : Calls Tryz.prog 35 ([Value.pointer
    (some { block := b, off := 0 })] : List Value).toArray w R := by
  have e : execR2 { P := Tryz.prog, loops := [(5, [])], pur := pur1, tails := [(8, 6)], joins := [], boxes := [], rngs := [(13, 97)] } Tryz.f35.results.toList R (Tryz.f35.body.getD .skip) (initF [Value.pointer
    (some
      { block := b,
        off :=
          0 })] (Tryz.f35.ntmps - ([Value.pointer
    (some { block := b, off := 0 })] : List Value).length)) w = VC_acclone b w R := by kernel_rfl
  have hb : Tryz.f35.body = some (Tryz.f35.body.getD .skip) := by kernel_rfl
  exact calls_of_exec2' (P := Tryz.prog) (fn := Tryz.f35) (c := Tryz.f35.body.getD .skip) (args := [Value.pointer
    (some { block := b, off := 0 })]) (w := w) (R := R) pur1_ok Tryz.func35 hb e h

def VC_acequal (b : Nat) (d : Nat) (w : World) (R : Ending → World → Prop) : Prop :=
 ∃ (x : Option Nat),
 (∀ (W : World), Loc w.heap.size [] w W → W.cell? (Addr.mk b 0 none) = some (Value.map x)) ∧
 ∃ (n : Int),
 (∀ (W : World), Loc w.heap.size [] w W → LenP Tryz.prog 97 (Value.map x) n W) ∧
 ∃ (x : Option Nat),
 (∀ (W : World), Loc w.heap.size [] w W → W.cell? (Addr.mk d 0 none) = some (Value.map x)) ∧
 ∃ (n_1 : Int),
 (∀ (W : World), Loc w.heap.size [] w W → LenP Tryz.prog 97 (Value.map x) n_1 W) ∧
 bsp (n != n_1) (∀ (W : World), Loc w.heap.size [] w W → R (Ending.returned (Value.bool false)) W)
 (∃ (x : Option Nat),
 (∀ (W : World), Loc w.heap.size [] w W → W.cell? (Addr.mk b 0 none) = some (Value.map x)) ∧
 ∀ (W : World),
 Loc w.heap.size [] w W →
 ∃ (n : Nat),
 ∃ (w1 : World),
 RngP Tryz.prog 97 (Value.map x) n W w1 ∧
 KeptL [] W w1 ∧
 ∃ (I : List Value → World → Prop),
 ∃ (m : List Value → World → Nat),
 I [] w1 ∧
 ∀ (w' : World),
 I [] w' →
 ∃ (b : Bool),
 ∃ (r : List Value),
 ∃ (w1 : World),
 NxtP Tryz.prog (Value.pointer (some (Addr.mk n 0 none))) b r w' w1 ∧
 KeptL [] w' w1 ∧
 bsp b
 (∃ (x : ByteArray),
 ∃ (x_1 : Int),
 ∃ (x_2 : Bool),
 ∃ (p : Option Addr),
 ∃ (n_2 : Nat),
 ∃ (c : Nat),
 EntP Tryz.prog (Value.pointer (some (Addr.mk n 0 none)))
 (Value.tuple
 #[Value.string x,
 Value.agg #[Value.int IntKind.i64 x_1, Value.bool x_2, Value.slice p n_2 c]])
 w1 ∧
 ∀ (n : Nat),
 ∃ (x_3 : Option Nat),
 (∀ (W : World),
 Loc w.heap.size
 [Blk.mk n 94 [Value.int IntKind.i64 x_1, Value.bool x_2, Value.slice p n_2 c]
 (wrM 2)]
 w1 W →
 W.cell? (Addr.mk d 0 none) = some (Value.map x_3)) ∧
 ∃ (x_4 : Int),
 ∃ (x_5 : Bool),
 ∃ (p_1 : Option Addr),
 ∃ (n_3 : Nat),
 ∃ (c_1 : Nat),
 ∃ (b : Bool),
 (∀ (W : World),
 Loc w.heap.size
 [Blk.mk n 94
 [Value.int IntKind.i64 x_1, Value.bool x_2, Value.slice p n_2 c]
 (wrM 2)]
 w1 W →
 LookP Tryz.prog 97 (Value.map x_3) (Value.string x) true
 (Value.tuple
 #[Value.agg
 #[Value.int IntKind.i64 x_4, Value.bool x_5,
 Value.slice p_1 n_3 c_1],
 Value.bool b])
 W) ∧
 ∀ (n_4 : Nat),
 ∃ (x : Int),
 gimp (!!b)
 (∀ (W : World),
 Loc w.heap.size
 [Blk.mk n_4 94
 [Value.int IntKind.i64 x_4, Value.bool x_5,
 Value.slice p_1 n_3 c_1]
 (wrM 2),
 Blk.mk n 94
 [Value.int IntKind.i64 x_1, Value.bool x_2, Value.slice p n_2 c]
 (wrM 2)]
 w1 W →
 W.cell? (Addr.mk n 0 none) = some (Value.int IntKind.i64 x)) ∧
 ∃ (x_6 : Int),
 gimp (!!b)
 (∀ (W : World),
 Loc w.heap.size
 [Blk.mk n_4 94
 [Value.int IntKind.i64 x_4, Value.bool x_5,
 Value.slice p_1 n_3 c_1]
 (wrM 2),
 Blk.mk n 94
 [Value.int IntKind.i64 x_1, Value.bool x_2, Value.slice p n_2 c]
 (wrM 2)]
 w1 W →
 W.cell? (Addr.mk n_4 0 none) = some (Value.int IntKind.i64 x_6)) ∧
 ∃ (x_7 : Bool),
 gimp (!(!b || x != x_6))
 (∀ (W : World),
 Loc w.heap.size
 [Blk.mk n_4 94
 [Value.int IntKind.i64 x_4, Value.bool x_5,
 Value.slice p_1 n_3 c_1]
 (wrM 2),
 Blk.mk n 94
 [Value.int IntKind.i64 x_1, Value.bool x_2,
 Value.slice p n_2 c]
 (wrM 2)]
 w1 W →
 W.cell? (Addr.mk n (0 + 1) none) = some (Value.bool x_7)) ∧
 ∃ (x_8 : Bool),
 gimp (!(!b || x != x_6))
 (∀ (W : World),
 Loc w.heap.size
 [Blk.mk n_4 94
 [Value.int IntKind.i64 x_4, Value.bool x_5,
 Value.slice p_1 n_3 c_1]
 (wrM 2),
 Blk.mk n 94
 [Value.int IntKind.i64 x_1, Value.bool x_2,
 Value.slice p n_2 c]
 (wrM 2)]
 w1 W →
 W.cell? (Addr.mk n_4 (0 + 1) none) = some (Value.bool x_8)) ∧
 ∃ (p_2 : Option Addr),
 ∃ (n_5 : Nat),
 ∃ (c_2 : Nat),
 gimp (!(!b || x != x_6 || !x_7 == x_8))
 (∀ (W : World),
 Loc w.heap.size
 [Blk.mk n_4 94
 [Value.int IntKind.i64 x_4, Value.bool x_5,
 Value.slice p_1 n_3 c_1]
 (wrM 2),
 Blk.mk n 94
 [Value.int IntKind.i64 x_1, Value.bool x_2,
 Value.slice p n_2 c]
 (wrM 2)]
 w1 W →
 W.cell? (Addr.mk n (0 + 2) none) =
 some (Value.slice p_2 n_5 c_2)) ∧
 ∃ (p_3 : Option Addr),
 ∃ (n_6 : Nat),
 ∃ (c_3 : Nat),
 gimp (!(!b || x != x_6 || !x_7 == x_8))
 (∀ (W : World),
 Loc w.heap.size
 [Blk.mk n_4 94
 [Value.int IntKind.i64 x_4, Value.bool x_5,
 Value.slice p_1 n_3 c_1]
 (wrM 2),
 Blk.mk n 94
 [Value.int IntKind.i64 x_1, Value.bool x_2,
 Value.slice p n_2 c]
 (wrM 2)]
 w1 W →
 W.cell? (Addr.mk n_4 (0 + 2) none) =
 some (Value.slice p_3 n_6 c_3)) ∧
 ∀ (W : World),
 Loc w.heap.size
 [Blk.mk n_4 94
 [Value.int IntKind.i64 x_4, Value.bool x_5,
 Value.slice p_1 n_3 c_1]
 (wrM 2),
 Blk.mk n 94
 [Value.int IntKind.i64 x_1, Value.bool x_2,
 Value.slice p n_2 c]
 (wrM 2)]
 w1 W →
 bsp (!(!b || x != x_6 || !x_7 == x_8))
 (CallsS Tryz.prog 59
 #[Value.slice p_2 n_5 c_2, Value.slice p_3 n_6 c_3] W
 fun (e : Ending) (w'_1 : World) =>
 ∃ (x : Bool),
 e = Ending.returned (Value.bool x) ∧
 KeptL [n_4, n] W w'_1 ∧
 bsp (false || !x)
 (R (Ending.returned (Value.bool false)) w'_1)
 (I [] w'_1 ∧ m [] w'_1 < m [] w'))
 (KeptL [n_4, n] W W ∧
 R (Ending.returned (Value.bool false)) W))
 (R (Ending.returned (Value.bool true)) w1))
theorem vc_acequal (b : Nat) (d : Nat) (w : World) (R : Ending → World → Prop) (h : VC_acequal b d w R) : Calls Tryz.prog 24 ([Value.pointer
    (some { block := b, off := 0 }),
  Value.pointer (some { block := d, off := 0 })] : List Value).toArray w R := by
  have e : execR2 { P := Tryz.prog, loops := [(6, [])], pur := pur1, tails := [], joins := [], boxes := [], rngs := [(36, 97)] } Tryz.f24.results.toList R (Tryz.f24.body.getD .skip) (initF [Value.pointer
    (some { block := b, off := 0 }),
  Value.pointer
    (some
      { block := d,
        off :=
          0 })] (Tryz.f24.ntmps - ([Value.pointer (some { block := b, off := 0 }),
  Value.pointer (some { block := d, off := 0 })] : List Value).length)) w = VC_acequal b d w R := by kernel_rfl
  have hb : Tryz.f24.body = some (Tryz.f24.body.getD .skip) := by kernel_rfl
  exact calls_of_exec2' (P := Tryz.prog) (fn := Tryz.f24) (c := Tryz.f24.body.getD .skip) (args := [Value.pointer
    (some { block := b, off := 0 }),
  Value.pointer (some { block := d, off := 0 })]) (w := w) (R := R) pur1_ok Tryz.func24 hb e h

end Go.Proofs.YtgmmoghagpmpfaaGreatDoor
