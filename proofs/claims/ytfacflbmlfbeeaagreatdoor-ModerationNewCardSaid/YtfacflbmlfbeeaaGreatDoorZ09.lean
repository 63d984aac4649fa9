/- Chapter 39: the contracts of the sort of submissions, of slices.SortedFunc, Compact, MinFunc. Rows that are not too long. -/
import Derived.Test.YtfacflbmlfbeeaaGreatDoorZ08
import Derived.Test.YtfacflbmlfbeeaaGreatDoorProg
import Derived.Test.YtfacflbmlfbeeaaGreatDoorZ02
import Derived.Test.YtfacflbmlfbeeaaGreatDoorZ05
import Derived.Test.YtfacflbmlfbeeaaGreatDoorZ04
import Derived.KernelRfl
namespace Go.Proofs.YtfacflbmlfbeeaaGreatDoor
open Go.RowKit Go.Sort

theorem attach_map {α : Type} {P : α → Prop} : ∀ (l : List α), (∀ x ∈ l, P x) → ∃ cs : List {x // P x}, cs.map (·.1) = l
  | [], _ => ⟨[], rfl⟩
  | x :: l, h => by
    obtain ⟨cs, hc⟩ := attach_map l fun y hy => h y (by simp [hy])
    exact ⟨⟨x, h x (by simp)⟩ :: cs, by simp [hc]⟩
theorem flat_x (cs : List SbX) : cs.flatMap sbXC = (cs.map (·.1)).flatMap sbC := by
  induction cs with
  | nil => rfl
  | cons x r ih => simp only [List.flatMap_cons, List.map_cons]; rw [ih]; rfl
theorem msort_any (l : List Sb) (p : Option Addr) (c : Nat) (w : World) {base : Nat} (ho : w.ownsRow base 48 54 (.slice p l.length c) l.length (l.flatMap sbC)) (hg : ∀ x ∈ l, x.g.size ≤ 1073741824) (hl : l.length ≤ 1000000) (hG : GW w) :
    Calls Tryz.prog 67 #[.slice p l.length c, .func (.func 68) #[] #[]] w fun e w' => e = .returned (.tuple #[]) ∧
      ∃ l' : List Sb, l'.Perm l ∧ (l'.Pairwise fun x y => ¬ cfM y x < 0) ∧
        w'.ownsRow base 48 54 (.slice p l'.length c) l'.length (l'.flatMap sbC) ∧ Kp (fun i => (Value.slice p l.length c).ownBlock = some i) w w' := by
  obtain ⟨cs, hc⟩ := attach_map l hg
  have hlen : cs.length = l.length := by rw [← hc, List.length_map]
  rw [← hlen] at ho ⊢
  rw [← hc, ← flat_x] at ho
  refine (msortX_any cs p c w ho (by omega) hG).mono fun e w' ⟨he, cs', hp, hs, ho', hk⟩ => ⟨he, cs'.map (·.1), ?_, ?_, ?_, hk⟩
  · rw [← hc]; exact hp.map _
  · rw [List.pairwise_map]; exact hs
  · rw [List.length_map, ← flat_x]; exact ho'

/-! ### slices.SortedFunc -/
theorem asorted_any (zs : List (Nat → Int)) (p : Option Addr) (c Bs : Nat) (w : World) (hB : w.cell? ⟨Bs, 0, none⟩ = some (.slice p zs.length c)) (hBs : Bs < w.heap.size) (hR : RowA auC 16 w p zs) (hp : ∀ g o, p = some ⟨g, o, none⟩ → g < w.heap.size) (hz : zs.length ≤ 1000000) :
    Calls Tryz.prog 71 #[.func (.func 105) #[] #[.pointer (some ⟨Bs, 0, none⟩)], .func (.func 73) #[] #[]] w fun e w' =>
      (∃ (p' : Option Addr) (c' : Nat) (l' : List (Nat → Int)), e = .returned (.slice p' l'.length c') ∧ l'.Perm zs ∧ (l'.Pairwise fun x y => ¬ cfA y x < 0) ∧ w'.ownsRow w.heap.size 45 16 (.slice p' l'.length c') l'.length (l'.flatMap auC)) ∧ K0 w w' := by
  refine vc_asorted _ _ _ _ _ _ w _ ?_
  have hcol : Calls Tryz.prog 103 #[.func (.func 105) #[] #[.pointer (some ⟨Bs, 0, none⟩)]] w fun e w' => (∃ (p' : Option Addr) (c' : Nat), e = .returned (.slice p' zs.length c') ∧ w'.ownsRow w.heap.size 45 16 (.slice p' zs.length c') zs.length (zs.flatMap auC)) ∧ K0 w w' := by
    refine vc_acollect _ _ _ w _ ⟨(callsIn_wide.1 (aapp_in 4 (by omega) Bs p c zs hz w hBs hB hR hp)).mono fun e w' ⟨v, he, ho, hb⟩ => ?_⟩
    have hk : K0 w w' := ⟨hb.os, hb.tape, hb.output, hb.size, fun i hi _ => hb.block i hi⟩
    rcases ho.2 with ⟨rfl, h0⟩ | ⟨g, cap, cur, rfl, _⟩
    · exact ⟨none, 0, 0, he, .of_k0 hk, ⟨none, 0, by rw [h0], by rw [h0] at ho ⊢; exact ho⟩, hk⟩
    · exact ⟨_, _, _, he, .of_k0 hk, ⟨_, _, rfl, ho⟩, hk⟩
  refine ⟨hcol.mono fun e w1 ⟨⟨p', c', he, ho⟩, k1⟩ => ⟨_, _, _, he, .of_k0 k1, ?_⟩⟩
  refine ⟨(asort_any zs p' c' w1 ho hz).mono fun e w2 ⟨he2, l', hp', hs, ho', k2⟩ => ?_⟩
  have k02 : K0 w w2 := k1.fresh k2 (fun i hi e => by have := own_ge ho e; omega)
  have hk2 : KeptL [] w1 w2 := .of_kp k2 (fun n hn => by cases hn)
  exact ⟨he2, hk2, ⟨p', c', l', by rw [hp'.length_eq], hp', hs, ho'⟩, k02⟩

/-! ### Compact -/
def adjI (l : List (Nat → Int)) : Prop := ∃ (k : Nat) (x y : Nat → Int), l[k]? = some x ∧ l[k + 1]? = some y ∧ auI x = auI y
theorem zeroAu (w : World) : (zeroValue 45).run Tryz.prog w = .ok (auV fun _ => 0) w := by kernel_rfl
set_option maxHeartbeats 1000000 in
theorem acompact_any (l : List (Nat → Int)) (p : Option Addr) (c : Nat) (w : World) {base : Nat} (ho : w.ownsRow base 45 16 (.slice p l.length c) l.length (l.flatMap auC)) (hb : ∀ m ∈ l, BY m) (hl : l.length ≤ 1000000) :
    Calls Tryz.prog 74 #[.slice p l.length c] w fun e w' => (∃ m : Nat, e = .returned (.slice p m c) ∧ (m = l.length ∧ ¬ adjI l ∨ m < l.length ∧ adjI l)) ∧ Kp (fun i => (Value.slice p l.length c).ownBlock = some i) w w' := by
  refine vc_acompact p l.length c w _ (bsp_intro (fun h => ?_) (fun h => ?_))
  · have h : l.length < 2 := by simp at h; omega
    refine ⟨⟨_, rfl, .inl ⟨rfl, fun ⟨k, x, y, h1, h2, _⟩ => ?_⟩⟩, .refl _ _⟩
    have := (List.getElem?_eq_some_iff.1 h2).1
    omega
  have h2 : 2 ≤ l.length := by simp at h; omega
  obtain ⟨g, cap, cur, hv, hbase, hg, hcap, hmax, hcs, _⟩ : ∃ g cap cur, Value.slice p l.length c = .slice (some ⟨g, 0, none⟩) l.length cap ∧ base ≤ g ∧ w.heap[g]? = some (.cells cur 45 (0, 0)) ∧ l.length ≤ cap ∧ cap ≤ maxLen ∧ cur.size = cap * 16 ∧ True := by
    rcases ho.2 with ⟨_, h0⟩ | ⟨g, cap, cur, hv, hb, hg, h4, h5, h6, h7⟩
    · omega
    · exact ⟨g, cap, cur, hv, hb, hg, h4, h5, h6, trivial⟩
  simp only [Value.slice.injEq, true_and] at hv
  obtain ⟨rfl, rfl⟩ := hv
  have hB : (Value.slice (some (Addr.mk g 0 none)) l.length c).ownBlock = some g := rfl
  have row : ∀ {W : World} {l' : List (Nat → Int)}, l'.length = l.length → W.ownsRow base 45 16 (.slice (some ⟨g, 0, none⟩) l.length c) l.length (l'.flatMap auC) → ∀ k, k < l.length → ∃ y, l'[k]? = some y ∧ AtL W g (0 + k * 16) (auC y) := fun hlen ho k hk => by
    rw [← hlen] at ho hk
    obtain ⟨y, b1, o1, hy, hp, hat⟩ := (RowA.own ho auC_length (by decide)).get hk
    obtain ⟨g', hg', hat'⟩ := own_at auC ho (fun y _ => auC_length y) (by decide) hy
    simp only [Option.some.injEq, Addr.mk.injEq, and_true] at hg'
    subst hg'
    exact ⟨y, hy, hat'⟩
  refine ⟨fun vs w' => ∃ x : Nat, vs = [.int .i64 (x : Int)] ∧ 1 ≤ x ∧ x ≤ l.length ∧ K0 w w' ∧ (∀ k a b, k + 1 < x → l[k]? = some a → l[k + 1]? = some b → auI a ≠ auI b),
    fun vs _ => (match vs with | .int _ a :: _ => l.length - a.toNat | _ => 0), ⟨1, rfl, by omega, by omega, .refl _ _, fun k a b h => by omega⟩, ?_⟩
  rintro x w1 ⟨x, hv, hx1, hxl, k1, hno⟩
  simp only [List.cons.injEq, Value.int.injEq, true_and, and_true] at hv
  subst hv
  have ho1 := owns_kp ho k1 (fun _ _ h => h)
  refine bsp_intro (fun hlt => ?_) (fun hge => ?_)
  · have hlt : x < l.length := by simp at hlt; omega
    obtain ⟨a, ha, hata⟩ := row rfl ho1 x hlt
    obtain ⟨b, hbb, hatb⟩ := row rfl ho1 (x - 1) (by omega)
    have e1 : IntKind.i64.wrap ((x : Int) - 1) = ((x - 1 : Nat) : Int) := by rw [wr64 (by omega) (by omega)]; omega
    rw [e1, Int.toNat_natCast, Int.toNat_natCast]
    refine nn_is rfl ⟨⟨by omega, by omega⟩, a, fun W hW => hata.k0 (hW.kk rfl), nn_is rfl ⟨⟨by omega, by omega⟩, b, fun W hW => hatb.k0 (hW.kk rfl), _, auEq (hb _ (List.mem_of_getElem? ha)) (hb _ (List.mem_of_getElem? hbb)), bsp_intro (fun hr => ?_) (fun hr => ?_)⟩⟩
    · have hr : auI a = auI b := by simpa using hr
      have hadj : adjI l := ⟨x - 1, b, a, hbb, by rw [Nat.sub_add_cancel hx1]; exact ha, hr.symm⟩
      refine ⟨⟨by omega, by omega⟩, fun W hW => ?_⟩
      have kW : K0 w W := k1.trans (hW.kk rfl)
      have eS : slA (some (Addr.mk g 0 none)) c x 16 = some ⟨g, x * 16, none⟩ := by
        unfold slA
        rw [if_neg (by omega)]
        simp [add_plain]
      rw [eS]
      refine ⟨fun vs w' => ∃ (x1 x2 : Nat) (l' : List (Nat → Int)), vs = [.int .i64 (x1 : Int), .int .i64 (x2 : Int)] ∧ 1 ≤ x1 ∧ x1 ≤ l.length - x ∧ x ≤ x2 ∧ x2 + 1 ≤ x + x1 ∧ l'.length = l.length ∧ (∀ m ∈ l', BY m) ∧
          w'.ownsRow base 45 16 (.slice (some ⟨g, 0, none⟩) l.length c) l.length (l'.flatMap auC) ∧ Kp (· = g) w w',
        fun vs _ => (match vs with | .int _ a :: _ => l.length - a.toNat | _ => 0), ⟨1, x, l, rfl, by omega, by omega, by omega, by omega, rfl, hb, owns_kp ho kW (fun _ _ h => h), kW.mono fun _ _ h => h.elim⟩, ?_⟩
      rintro y1 y2 w2 ⟨x1, x2, l', hv, h1, h3, h4, h5, hl', hb', ho2, k2⟩
      simp only [List.cons.injEq, Value.int.injEq, true_and, and_true] at hv
      obtain ⟨rfl, rfl⟩ := hv
      rw [Int.toNat_natCast, Int.toNat_natCast]
      refine bsp_intro (fun hlt2 => ?_) (fun hge2 => ?_)
      · have hlt2 : x1 < l.length - x := by simp at hlt2; omega
        obtain ⟨a2, ha2, hata2⟩ := row hl' ho2 (x + x1) (by omega)
        obtain ⟨b2, hb2, hatb2⟩ := row hl' ho2 (x + x1 - 1) (by omega)
        have e2 : IntKind.i64.wrap ((x1 : Int) - 1) = ((x1 - 1 : Nat) : Int) := by rw [wr64 (by omega) (by omega)]; omega
        have o1 : 0 + (x + x1) * 16 = x * 16 + x1 * 16 := by omega
        have o2 : 0 + (x + x1 - 1) * 16 = x * 16 + (x1 - 1) * 16 := by omega
        rw [o1] at hata2
        rw [o2] at hatb2
        rw [e2, Int.toNat_natCast]
        have inc1 : IntKind.i64.wrap ((x1 : Int) + 1) = ((x1 + 1 : Nat) : Int) := inc64 (by omega)
        have inc2 : IntKind.i64.wrap ((x2 : Int) + 1) = ((x2 + 1 : Nat) : Int) := inc64 (by omega)
        refine nn_is rfl ⟨⟨by omega, by omega⟩, a2, fun W hW => hata2.k0 (hW.kk rfl), nn_is rfl ⟨⟨by omega, by omega⟩, b2, fun W hW => hatb2.k0 (hW.kk rfl), _, auEq (hb' _ (List.mem_of_getElem? ha2)) (hb' _ (List.mem_of_getElem? hb2)), bsp_intro (fun hr2 => ?_) (fun hr2 => ?_)⟩⟩
        · refine nn_is rfl ⟨⟨by omega, by omega⟩, a2, fun W hW => hata2.k0 (hW.kk rfl), nn_is rfl ⟨⟨by omega, by omega⟩, fun W3 hW3 => ?_⟩⟩
          have k3 : K0 w2 W3 := hW3.kk rfl
          have ho3 := owns_kp ho2 k3 (fun _ _ h => h)
          obtain ⟨g', hg', hwr⟩ := own_wr ho3 (k := x2) (by omega)
          simp only [Option.some.injEq, Addr.mk.injEq, and_true] at hg'
          subst hg'
          refine ⟨hwr, fun w4 hp4 => ⟨.of_kp hp4.kp (fun n hn => by cases hn), ?_⟩⟩
          have ho4 := own_set (y := a2) ho3 hl'.symm auC_length (by decide) (by omega) hp4
          rw [inc1, inc2]
          refine ⟨⟨x1 + 1, x2 + 1, l'.set x2 a2, rfl, by omega, by omega, by omega, by omega, by rw [List.length_set]; exact hl', fun m hm => ?_, ho4, (k2.trans (k3.mono fun _ _ h => h.elim)).trans hp4.kp⟩, by simp only [Int.toNat_natCast]; omega⟩
          rcases List.mem_or_eq_of_mem_set hm with h | h
          · exact hb' m h
          · rw [h]; exact hb' _ (List.mem_of_getElem? ha2)
        · intro W3 hW3
          have k3 : K0 w2 W3 := hW3.kk rfl
          rw [inc1]
          exact ⟨⟨x1 + 1, x2, l', rfl, by omega, by omega, h4, by omega, hl', hb', owns_kp ho2 k3 (fun _ _ h => h), k2.trans (k3.mono fun _ _ h => h.elim)⟩, by simp only [Int.toNat_natCast]; omega⟩
      · have hge2 : x1 = l.length - x := by simp at hge2; omega
        obtain ⟨cur2, hcur, hsz⟩ : ∃ cur2, w2.heap[g]? = some (.cells cur2 45 (0, 0)) ∧ cur2.size = c * 16 := by
          rcases ho2.2 with ⟨hv, _⟩ | ⟨g', cap, cur2, hv, hb2, hg2, h42, h52, h62, h72⟩
          · simp at hv
          · simp only [Value.slice.injEq, true_and, Option.some.injEq, Addr.mk.injEq, and_true] at hv
            obtain ⟨rfl, rfl⟩ := hv
            exact ⟨cur2, hg2, h62⟩
        have eZ : slA (some (Addr.mk g 0 none)) c x2 16 = some ⟨g, x2 * 16, none⟩ := by
          unfold slA
          rw [if_neg (by omega)]
          simp [add_plain]
        obtain ⟨w3, hbl, k3, _⟩ := clear_row (P := Tryz.prog) (w := w2) (t := 28) Tryz.underlying28 zeroAu (b := g) (o := x2 * 16) (m := l.length - x2) (c := c - x2) hcur (by omega)
          (by rw [hsz]; show x2 * 16 + (l.length - x2) * 16 ≤ c * 16; omega) (fun v hv => auC_one _ v (by simpa [auV, Value.cells] using hv))
        rw [eZ]
        refine ⟨⟨by omega, by omega⟩, w3, hbl, .of_kp k3 (fun n hn => by cases hn), ⟨by omega, by omega⟩, ⟨x2, rfl, .inr ⟨by omega, hadj⟩⟩, (k2.trans k3).mono fun i _ e => by rw [hB, e]⟩
    · have hr : auI a ≠ auI b := by simpa using hr
      intro W hW
      rw [inc64 (by omega)]
      refine ⟨⟨x + 1, rfl, by omega, hlt, k1.trans (hW.kk rfl), fun k a' b' hk ha' hb' => ?_⟩, by simp only [Int.toNat_natCast]; omega⟩
      rcases Nat.lt_or_ge (k + 1) x with h | h
      · exact hno k a' b' h ha' hb'
      · have : k = x - 1 := by omega
        subst this
        rw [hbb] at ha'
        rw [Nat.sub_add_cancel hx1, ha] at hb'
        cases ha'; cases hb'
        exact fun e => hr e.symm
  · have : x = l.length := by simp at hge; omega
    subst this
    refine ⟨⟨_, rfl, .inl ⟨rfl, fun ⟨k, a, b, h1, h3, h4⟩ => ?_⟩⟩, k1.mono fun _ _ h => h.elim⟩
    exact hno k a b (List.getElem?_eq_some_iff.1 h3).1 h1 h3 h4

end Go.Proofs.YtfacflbmlfbeeaaGreatDoor

/- The formulas of functions by the symbolic evaluator, and that each gives the call's contract. Written by a program (gen.py). No condition. -/
namespace Go.Proofs.YtfacflbmlfbeeaaGreatDoor
set_option maxRecDepth 100000
set_option linter.unusedVariables false

def VC_mnew (room : Int) (days : Int) (w : World) (R : Ending → World → Prop) : Prop :=
 bsp (decide (room < 1) || decide (room > 10000) || decide (days < 1) || decide (days > 365))
 (R (Ending.returned (Value.tuple #[Value.pointer none, Value.int IntKind.i64 2])) w)
 (∀ (n : Nat) (w1 : World),
 NewB w (Obj.map #[] 0) n w1 →
 KeptL [] w w1 ∧
 ∀ (n_1 : Nat) (w1_1 : World),
 NewB w1 (Obj.map #[] 0) n_1 w1_1 →
 KeptL [] w1 w1_1 ∧
 ∀ (n_2 : Nat) (W : World),
 Loc w.heap.size
 [Blk.mk n_2 98
 [Value.int IntKind.i64 room, Value.int IntKind.i64 days, Value.int IntKind.i64 0, Value.map (some n),
 Value.map (some n_1)]
 2]
 w1_1 W →
 R (Ending.returned (Value.tuple #[Value.pointer (some (Addr.mk n_2 0 none)), Value.int IntKind.i64 0])) W)
theorem vc_mnew (room : Int) (days : Int) (w : World) (R : Ending → World → Prop) (h : VC_mnew room days w R) : Calls Tryz.prog 13 ([Value.int
    IntKind.i64 room,
  Value.int IntKind.i64 days] : List Value).toArray w R := by
  have e : execR2 { P := Tryz.prog, loops := [], pur := pur1, tails := [], joins := [], boxes := [] } Tryz.f13.results.toList R (Tryz.f13.body.getD .skip) (initF [Value.int
    IntKind.i64 room,
  Value.int IntKind.i64
    days] (Tryz.f13.ntmps - ([Value.int IntKind.i64 room,
  Value.int IntKind.i64 days] : List Value).length)) w = VC_mnew room days w R := by kernel_rfl
  have hb : Tryz.f13.body = some (Tryz.f13.body.getD .skip) := by kernel_rfl
  exact calls_of_exec2' (P := Tryz.prog) (fn := Tryz.f13) (c := Tryz.f13.body.getD .skip) (args := [Value.int
    IntKind.i64 room,
  Value.int IntKind.i64 days]) (w := w) (R := R) pur1_ok Tryz.func13 hb e h

def VC_ismod (b : Nat) (s : ByteArray) (a : Nat → Int) (w : World) (R : Ending → World → Prop) : Prop :=
 ∀ (n : Nat),
 ∃ (x : Option Nat),
 (∀ (W : World),
 Loc w.heap.size
 [Blk.mk n 45
 (arrI IntKind.u8 a 16 0)
 2]
 w W →
 W.cell? (Addr.mk b (0 + 3) none) = some (Value.map x)) ∧
 ∃ (p : Option Addr),
 ∃ (n_1 : Nat),
 ∃ (c : Nat),
 (∀ (W : World),
 Loc w.heap.size
 [Blk.mk n 45
 (arrI IntKind.u8 a 16 0)
 2]
 w W →
 LookP Tryz.prog 95 (Value.map x) (Value.string s) false (Value.slice p n_1 c) W) ∧
 ∀ (W : World),
 Loc w.heap.size
 [Blk.mk n 45
 (arrI IntKind.u8 a 16 0)
 2]
 w W →
 CallsS Tryz.prog 107
 #[Value.slice p n_1 c,
 Value.agg
 (arrI IntKind.u8 a 16 0).toArray]
 W fun (e : Ending) (w' : World) =>
 ∃ (x : Bool), e = Ending.returned (Value.bool x) ∧ KeptL [n] W w' ∧ R (Ending.returned (Value.bool x)) w'
theorem vc_ismod (b : Nat) (s : ByteArray) (a : Nat → Int) (w : World) (R : Ending → World → Prop) (h : VC_ismod b s a w R) : Calls Tryz.prog 75 ([Value.pointer
    (some { block := b, off := 0 }),
  Value.string s, Value.agg (arrI IntKind.u8 a 16 0).toArray] : List Value).toArray w R := by
  have e : execR2 { P := Tryz.prog, loops := [], pur := pur1, tails := [(1, 7)], joins := [], boxes := [] } Tryz.f75.results.toList R (Tryz.f75.body.getD .skip) (initF [Value.pointer
    (some { block := b, off := 0 }),
  Value.string s,
  Value.agg
    (arrI IntKind.u8 a 16
        0).toArray] (Tryz.f75.ntmps - ([Value.pointer (some { block := b, off := 0 }), Value.string s,
  Value.agg (arrI IntKind.u8 a 16 0).toArray] : List Value).length)) w = VC_ismod b s a w R := by kernel_rfl
  have hb : Tryz.f75.body = some (Tryz.f75.body.getD .skip) := by kernel_rfl
  exact calls_of_exec2' (P := Tryz.prog) (fn := Tryz.f75) (c := Tryz.f75.body.getD .skip) (args := [Value.pointer
    (some { block := b, off := 0 }),
  Value.string s, Value.agg (arrI IntKind.u8 a 16 0).toArray]) (w := w) (R := R) pur1_ok Tryz.func75 hb e h

def VC_mods (b : Nat) (s : ByteArray) (w : World) (R : Ending → World → Prop) : Prop :=
 ∃ (x : Option Nat),
 w.cell? (Addr.mk b (0 + 3) none) = some (Value.map x) ∧
 ∃ (p : Option Addr),
 ∃ (n : Nat),
 ∃ (c : Nat),
 LookP Tryz.prog 95 (Value.map x) (Value.string s) false (Value.slice p n c) w ∧
 CallsS Tryz.prog 47 #[Value.slice p n c] w fun (e : Ending) (w' : World) =>
 ∃ (p : Option Addr),
 ∃ (n : Nat),
 ∃ (c : Nat),
 e = Ending.returned (Value.slice p n c) ∧ KeptL [] w w' ∧ R (Ending.returned (Value.slice p n c)) w'
theorem vc_mods (b : Nat) (s : ByteArray) (w : World) (R : Ending → World → Prop) (h : VC_mods b s w R) : Calls Tryz.prog 16 ([Value.pointer
    (some { block := b, off := 0 }),
  Value.string s] : List Value).toArray w R := by
  have e : execR2 { P := Tryz.prog, loops := [], pur := pur1, tails := [], joins := [], boxes := [] } Tryz.f16.results.toList R (Tryz.f16.body.getD .skip) (initF [Value.pointer
    (some { block := b, off := 0 }),
  Value.string
    s] (Tryz.f16.ntmps - ([Value.pointer (some { block := b, off := 0 }),
  Value.string s] : List Value).length)) w = VC_mods b s w R := by kernel_rfl
  have hb : Tryz.f16.body = some (Tryz.f16.body.getD .skip) := by kernel_rfl
  exact calls_of_exec2' (P := Tryz.prog) (fn := Tryz.f16) (c := Tryz.f16.body.getD .skip) (args := [Value.pointer
    (some { block := b, off := 0 }),
  Value.string s]) (w := w) (R := R) pur1_ok Tryz.func16 hb e h

def VC_submit (b : Nat) (i : Nat → Int) (s : ByteArray) (t : ByteArray) (now : Int) (w : World) (R : Ending → World → Prop) : Prop :=
 ∀ (n : Nat) (W : World),
 Loc w.heap.size
 [Blk.mk n 32
 (arrI IntKind.u8 i 32 0)
 2]
 w W →
 CallsS Tryz.prog 48 #[Value.pointer (some (Addr.mk b 0 none)), Value.int IntKind.i64 now] W
 fun (e : Ending) (w' : World) =>
 ∃ (x : Int),
 e = Ending.returned (Value.int IntKind.i64 x) ∧
 KeptL [n] W w' ∧
 bsp (x != 0) (R (Ending.returned (Value.int IntKind.i64 x)) w')
 (CallsS Tryz.prog 49 #[Value.string s] w' fun (e : Ending) (w'_1 : World) =>
 ∃ (x : Int),
 e = Ending.returned (Value.int IntKind.i64 x) ∧
 KeptL [n] w' w'_1 ∧
 bsp (x != 0) (R (Ending.returned (Value.int IntKind.i64 x)) w'_1)
 (∀ (n_1 : Nat) (W : World),
 Loc w.heap.size
 [Blk.mk n_1 103
 (arrI IntKind.u8 i 32 0 ++ [Value.string s])
 (wrM 2),
 Blk.mk n 32
 (arrI IntKind.u8 i 32 0)
 0]
 w'_1 W →
 ∃ (S : World → Prop),
 S W ∧
 ∃ (x : Option Nat),
 (∀ (w' : World), S w' → w'.cell? (Addr.mk b (0 + 4) none) = some (Value.map x)) ∧
 ∃ (f : Nat → Int),
 ∃ (x_1 : ByteArray),
 (∀ (w' : World),
 S w' →
 AtL w' n_1 0
 (arrI IntKind.u8 f 32 0 ++ [Value.string x_1])) ∧
 ∃ (f_1 : Nat → Int),
 ∃ (x_2 : ByteArray),
 ∃ (x_3 : ByteArray),
 ∃ (x_4 : Int),
 ∃ (x_5 : Int),
 ∃ (f_2 : Nat → Int),
 ∃ (x_6 : Int),
 ∃ (x_7 : ByteArray),
 ∃ (x_8 : Bool),
 ∃ (f_3 : Nat → Int),
 ∃ (x_9 : Int),
 ∃ (b_1 : Bool),
 (∀ (w' : World),
 S w' →
 LookP Tryz.prog 96 (Value.map x)
 (Value.agg
 (arrI IntKind.u8 f 32 0 ++ [Value.string x_1]).toArray)
 true
 (Value.tuple
 #[Value.agg
 (arrI IntKind.u8 f_1 32 0 ++ ([Value.string x_2,
 Value.string x_3, Value.int IntKind.i64 x_4, Value.int IntKind.i64 x_5] ++ arrI IntKind.u8 f_2 16 0 ++ ([Value.int IntKind.i64 x_6, Value.string x_7, Value.bool x_8] ++ arrI IntKind.u8 f_3 16 0 ++ [Value.int IntKind.i64 x_9]))).toArray,
 Value.bool b_1])
 w') ∧
 ∀ (n_2 : Nat) (w1 : World),
 NewB W
 (Obj.cells
 #[Value.int IntKind.u8 0, Value.int IntKind.u8 0, Value.int IntKind.u8 0,
 Value.int IntKind.u8 0, Value.int IntKind.u8 0, Value.int IntKind.u8 0,
 Value.int IntKind.u8 0, Value.int IntKind.u8 0, Value.int IntKind.u8 0,
 Value.int IntKind.u8 0, Value.int IntKind.u8 0, Value.int IntKind.u8 0,
 Value.int IntKind.u8 0, Value.int IntKind.u8 0, Value.int IntKind.u8 0,
 Value.int IntKind.u8 0, Value.int IntKind.u8 0, Value.int IntKind.u8 0,
 Value.int IntKind.u8 0, Value.int IntKind.u8 0, Value.int IntKind.u8 0,
 Value.int IntKind.u8 0, Value.int IntKind.u8 0, Value.int IntKind.u8 0,
 Value.int IntKind.u8 0, Value.int IntKind.u8 0, Value.int IntKind.u8 0,
 Value.int IntKind.u8 0, Value.int IntKind.u8 0, Value.int IntKind.u8 0,
 Value.int IntKind.u8 0, Value.int IntKind.u8 0, Value.string (ByteArray.mk #[]),
 Value.string (ByteArray.mk #[]), Value.int IntKind.i64 0,
 Value.int IntKind.i64 0, Value.int IntKind.u8 0, Value.int IntKind.u8 0,
 Value.int IntKind.u8 0, Value.int IntKind.u8 0, Value.int IntKind.u8 0,
 Value.int IntKind.u8 0, Value.int IntKind.u8 0, Value.int IntKind.u8 0,
 Value.int IntKind.u8 0, Value.int IntKind.u8 0, Value.int IntKind.u8 0,
 Value.int IntKind.u8 0, Value.int IntKind.u8 0, Value.int IntKind.u8 0,
 Value.int IntKind.u8 0, Value.int IntKind.u8 0, Value.int IntKind.i64 0,
 Value.string (ByteArray.mk #[]), Value.bool false, Value.int IntKind.u8 0,
 Value.int IntKind.u8 0, Value.int IntKind.u8 0, Value.int IntKind.u8 0,
 Value.int IntKind.u8 0, Value.int IntKind.u8 0, Value.int IntKind.u8 0,
 Value.int IntKind.u8 0, Value.int IntKind.u8 0, Value.int IntKind.u8 0,
 Value.int IntKind.u8 0, Value.int IntKind.u8 0, Value.int IntKind.u8 0,
 Value.int IntKind.u8 0, Value.int IntKind.u8 0, Value.int IntKind.u8 0,
 Value.int IntKind.i64 0]
 107)
 n_2 w1 →
 S w1 ∧
 WrL w1 n_2 0 72 ∧
 ∀ (w1_1 : World),
 PutB w1 n_2 0
 (arrI IntKind.u8 f_1 32 0 ++ ([Value.string x_2, Value.string x_3, Value.int IntKind.i64 x_4,
 Value.int IntKind.i64 x_5] ++ arrI IntKind.u8 f_2 16 0 ++ ([Value.int IntKind.i64 x_6, Value.string x_7,
 Value.bool x_8] ++ arrI IntKind.u8 f_3 16 0 ++ [Value.int IntKind.i64 x_9])))
 w1_1 →
 KeptL [n_1, n] W w1_1 ∧
 bsp (decide ((↑t.size : Int) > 65536))
 (R (Ending.returned (Value.int IntKind.i64 5)) w1_1)
 (∃ (x : Option Nat),
 w1_1.cell? (Addr.mk b (0 + 3) none) = some (Value.map x) ∧
 ∃ (p : Option Addr),
 ∃ (n_3 : Nat),
 ∃ (c : Nat),
 LookP Tryz.prog 95 (Value.map x) (Value.string s) false
 (Value.slice p n_3 c) w1_1 ∧
 bsp ((↑n_3 : Int) == 0)
 (R (Ending.returned (Value.int IntKind.i64 33)) w1_1)
 (bsp b_1 (R (Ending.returned (Value.int IntKind.i64 7)) w1_1)
 (∃ (x : Int),
 (∀ (W : World),
 Loc w.heap.size
 [Blk.mk n_1 103
 (arrI IntKind.u8 i 32 0 ++ [Value.string s])
 0,
 Blk.mk n 32
 (arrI IntKind.u8 i 32 0)
 0]
 w1_1 W →
 W.cell? (Addr.mk b (0 + 2) none) =
 some (Value.int IntKind.i64 x)) ∧
 ∃ (x_10 : Int),
 (∀ (W : World),
 Loc w.heap.size
 [Blk.mk n_1 103
 (arrI IntKind.u8 i 32 0 ++ [Value.string s])
 0,
 Blk.mk n 32
 (arrI IntKind.u8 i 32 0)
 0]
 w1_1 W →
 W.cell? (Addr.mk b 0 none) =
 some (Value.int IntKind.i64 x_10)) ∧
 bsp (decide (x ≥ x_10))
 (∀ (W : World),
 Loc w.heap.size
 [Blk.mk n_1 103
 (arrI IntKind.u8 i 32 0 ++ [Value.string s])
 0,
 Blk.mk n 32
 (arrI IntKind.u8 i 32 0)
 0]
 w1_1 W →
 R (Ending.returned (Value.int IntKind.i64 9)) W)
 (∃ (x : Option Nat),
 (∀ (W : World),
 Loc w.heap.size
 [Blk.mk n_1 103
 (arrI IntKind.u8 i 32 0 ++ [Value.string s])
 0,
 Blk.mk n 32
 (arrI IntKind.u8 i 32 0)
 0]
 w1_1 W →
 W.cell? (Addr.mk b (0 + 4) none) = some (Value.map x)) ∧
 ∀ (W : World),
 Loc w.heap.size
 [Blk.mk n_1 103
 (arrI IntKind.u8 i 32 0 ++ [Value.string s])
 0,
 Blk.mk n 32
 (arrI IntKind.u8 i 32 0)
 0]
 w1_1 W →
 ∃ (w1 : World),
 UpdP Tryz.prog 96 (Value.map x)
 (Value.agg
 (arrI IntKind.u8 i 32 0 ++ [Value.string s]).toArray)
 (Value.agg
 (arrI IntKind.u8 i 32 0 ++ [Value.string s,
 Value.string t, Value.int IntKind.i64 now,
 Value.int IntKind.i64 0, Value.int IntKind.u8 0,
 Value.int IntKind.u8 0, Value.int IntKind.u8 0,
 Value.int IntKind.u8 0, Value.int IntKind.u8 0,
 Value.int IntKind.u8 0, Value.int IntKind.u8 0,
 Value.int IntKind.u8 0, Value.int IntKind.u8 0,
 Value.int IntKind.u8 0, Value.int IntKind.u8 0,
 Value.int IntKind.u8 0, Value.int IntKind.u8 0,
 Value.int IntKind.u8 0, Value.int IntKind.u8 0,
 Value.int IntKind.u8 0, Value.int IntKind.i64 0,
 Value.string (ByteArray.mk #[]), Value.bool false,
 Value.int IntKind.u8 0, Value.int IntKind.u8 0,
 Value.int IntKind.u8 0, Value.int IntKind.u8 0,
 Value.int IntKind.u8 0, Value.int IntKind.u8 0,
 Value.int IntKind.u8 0, Value.int IntKind.u8 0,
 Value.int IntKind.u8 0, Value.int IntKind.u8 0,
 Value.int IntKind.u8 0, Value.int IntKind.u8 0,
 Value.int IntKind.u8 0, Value.int IntKind.u8 0,
 Value.int IntKind.u8 0, Value.int IntKind.u8 0,
 Value.int IntKind.i64 0]).toArray)
 W w1 ∧
 KeptL [n_1, n] W w1 ∧
 ∃ (x : Int),
 w1.cell? (Addr.mk b (0 + 2) none) =
 some (Value.int IntKind.i64 x) ∧
 ((∃ (u : Value),
 w1.cell? (Addr.mk b (0 + 2) none) = some u) ∧
 w1.frozen? (Addr.mk b (0 + 2) none) = false) ∧
 ∀ (w1_2 : World),
 PutB w1 b (0 + 2)
 [Value.int IntKind.i64 (IntKind.i64.wrap (x + 1))]
 w1_2 →
 KeptL [n_1, n] w1 w1_2 ∧
 R (Ending.returned (Value.int IntKind.i64 0))
 w1_2))))))
theorem vc_submit (b : Nat) (i : Nat → Int) (s : ByteArray) (t : ByteArray) (now : Int) (w : World) (R : Ending → World → Prop) (h : VC_submit b i s t now w R) : Calls Tryz.prog 18 ([Value.pointer
    (some { block := b, off := 0 }),
  Value.agg (arrI IntKind.u8 i 32 0).toArray, Value.string s, Value.string t,
  Value.int IntKind.i64 now] : List Value).toArray w R := by
  have e : execR2 { P := Tryz.prog, loops := [], pur := pur1, tails := [(8, 9), (17, 11)], joins := [], boxes := [] } Tryz.f18.results.toList R (Tryz.f18.body.getD .skip) (initF [Value.pointer
    (some { block := b, off := 0 }),
  Value.agg (arrI IntKind.u8 i 32 0).toArray, Value.string s, Value.string t,
  Value.int IntKind.i64
    now] (Tryz.f18.ntmps - ([Value.pointer (some { block := b, off := 0 }), Value.agg (arrI IntKind.u8 i 32 0).toArray,
  Value.string s, Value.string t,
  Value.int IntKind.i64 now] : List Value).length)) w = VC_submit b i s t now w R := by kernel_rfl
  have hb : Tryz.f18.body = some (Tryz.f18.body.getD .skip) := by kernel_rfl
  exact calls_of_exec2' (P := Tryz.prog) (fn := Tryz.f18) (c := Tryz.f18.body.getD .skip) (args := [Value.pointer
    (some { block := b, off := 0 }),
  Value.agg (arrI IntKind.u8 i 32 0).toArray, Value.string s, Value.string t,
  Value.int IntKind.i64 now]) (w := w) (R := R) pur1_ok Tryz.func18 hb e h

def VC_selected (b : Nat) (f : FuncId) (fa : Array Value) (fb : Array Value) (w : World) (R : Ending → World → Prop) : Prop :=
 ∃ (x : Option Nat),
 w.cell? (Addr.mk b (0 + 4) none) = some (Value.map x) ∧
 ∃ (n : Nat),
 ∃ (w1 : World),
 RngP Tryz.prog 96 (Value.map x) n w w1 ∧
 KeptL [] w w1 ∧
 ∃ (I : List Value → World → Prop),
 ∃ (m : List Value → World → Nat),
 I [Value.slice none 0 0] w1 ∧
 ∀ (p : Option Addr) (n_1 c : Nat) (w' : World),
 I [Value.slice p n_1 c] w' →
 ∃ (b : Bool),
 ∃ (r : List Value),
 ∃ (w1 : World),
 NxtP Tryz.prog (Value.pointer (some (Addr.mk n 0 none))) b r w' w1 ∧
 KeptL [] w' w1 ∧
 bsp b
 (∃ (f_1 : Nat → Int),
 ∃ (x : ByteArray),
 ∃ (f_2 : Nat → Int),
 ∃ (x_1 : ByteArray),
 ∃ (x_2 : ByteArray),
 ∃ (x_3 : Int),
 ∃ (x_4 : Int),
 ∃ (f_3 : Nat → Int),
 ∃ (x_5 : Int),
 ∃ (x_6 : ByteArray),
 ∃ (x_7 : Bool),
 ∃ (f_4 : Nat → Int),
 ∃ (x_8 : Int),
 EntP Tryz.prog (Value.pointer (some (Addr.mk n 0 none)))
 (Value.tuple
 #[Value.agg
 (arrI IntKind.u8 f_1 32 0 ++ [Value.string x]).toArray,
 Value.agg
 (arrI IntKind.u8 f_2 32 0 ++ ([Value.string x_1,
 Value.string x_2, Value.int IntKind.i64 x_3, Value.int IntKind.i64 x_4] ++ arrI IntKind.u8 f_3 16 0 ++ ([Value.int IntKind.i64 x_5, Value.string x_6, Value.bool x_7] ++ arrI IntKind.u8 f_4 16 0 ++ [Value.int IntKind.i64 x_8]))).toArray])
 w1 ∧
 ∀ (n : Nat) (W : World),
 Loc w.heap.size
 [Blk.mk n 107
 (arrI IntKind.u8 f_2 32 0 ++ ([Value.string x_1,
 Value.string x_2, Value.int IntKind.i64 x_3, Value.int IntKind.i64 x_4] ++ arrI IntKind.u8 f_3 16 0 ++ ([Value.int IntKind.i64 x_5, Value.string x_6, Value.bool x_7] ++ arrI IntKind.u8 f_4 16 0 ++ [Value.int IntKind.i64 x_8])))
 (wrM 2)]
 w1 W →
 ∃ (f_5 : Nat),
 ∃ (a : Array Value),
 ∃ (b : Array Value),
 Value.func (Fn.func f) fa fb = Value.func (Fn.func f_5) a b ∧
 okFn Tryz.prog f_5 = true ∧
 CallsS Tryz.prog f_5
 (appA a
 [Value.agg
 (arrI IntKind.u8 f_2 32 0 ++ ([Value.string x_1, Value.string x_2, Value.int IntKind.i64 x_3,
 Value.int IntKind.i64 x_4] ++ arrI IntKind.u8 f_3 16 0 ++ ([Value.int IntKind.i64 x_5, Value.string x_6,
 Value.bool x_7] ++ arrI IntKind.u8 f_4 16 0 ++ [Value.int IntKind.i64 x_8]))).toArray]
 b)
 W fun (e : Ending) (w'_1 : World) =>
 ∃ (x : Bool),
 e = Ending.returned (Value.bool x) ∧
 KeptL [n] W w'_1 ∧
 bsp x
 (∀ (n_2 : Nat) (W : World),
 Loc w.heap.size
 [Blk.mk n_2 48
 (arrI IntKind.u8 f_2 32 0 ++ ([Value.string x_1, Value.string x_2, Value.int IntKind.i64 x_3,
 Value.int IntKind.i64 x_4] ++ arrI IntKind.u8 f_3 16 0 ++ [Value.int IntKind.i64 x_5,
 Value.string x_6]))
 2,
 Blk.mk n 107
 (arrI IntKind.u8 f_2 32 0 ++ ([Value.string x_1, Value.string x_2, Value.int IntKind.i64 x_3,
 Value.int IntKind.i64 x_4] ++ arrI IntKind.u8 f_3 16 0 ++ ([Value.int IntKind.i64 x_5,
 Value.string x_6, Value.bool x_7] ++ arrI IntKind.u8 f_4 16 0 ++ [Value.int IntKind.i64 x_8])))
 0]
 w'_1 W →
 ∃ (base : Nat),
 ∃ (xs : List Value),
 W.ownsRow base 48 54 (Value.slice p n_1 c) n_1 xs ∧
 n_1 + 1 ≤ 9223372036854775807 ∧
 (n_1 + 1) * 120 ≤ 140737488355328 ∧
 base ≤ W.heap.size ∧
 ∀ (p' : Option Addr) (c' : Nat) (w'_2 : World),
 w'_2.ownsRow base 48 54 (Value.slice p' (n_1 + 1) c') (n_1 + 1)
 (xs ++
 (arrI IntKind.u8 f_2 32 0 ++ ([Value.string x_1, Value.string x_2, Value.int IntKind.i64 x_3,
 Value.int IntKind.i64 x_4] ++ arrI IntKind.u8 f_3 16 0 ++ [Value.int IntKind.i64 x_5,
 Value.string x_6]))) →
 W.grownBy w'_2 (Value.slice p n_1 c).ownBlock →
 (n_1 + 1 ≤ c → p' = p ∧ c' = c) →
 KeptL [n] W w'_2 ∧
 I [Value.slice p' (n_1 + 1) c'] w'_2 ∧
 m [Value.slice p' (n_1 + 1) c'] w'_2 <
 m [Value.slice p n_1 c] w')
 (I [Value.slice p n_1 c] w'_1 ∧
 m [Value.slice p n_1 c] w'_1 < m [Value.slice p n_1 c] w'))
 (R (Ending.returned (Value.slice p n_1 c)) w1)
theorem vc_selected (b : Nat) (f : FuncId) (fa : Array Value) (fb : Array Value) (w : World) (R : Ending → World → Prop) (h : VC_selected b f fa fb w R) : Calls Tryz.prog 65 ([Value.pointer
    (some { block := b, off := 0 }),
  Value.func (Fn.func f) fa fb] : List Value).toArray w R := by
  have e : execR2 { P := Tryz.prog, loops := [(5, [(5, Ck.slice)])], pur := pur1, tails := [], joins := [], boxes := [], rngs := [(14, 96)] } Tryz.f65.results.toList R (Tryz.f65.body.getD .skip) (initF [Value.pointer
    (some { block := b, off := 0 }),
  Value.func (Fn.func f) fa
    fb] (Tryz.f65.ntmps - ([Value.pointer (some { block := b, off := 0 }),
  Value.func (Fn.func f) fa fb] : List Value).length)) w = VC_selected b f fa fb w R := by kernel_rfl
  have hb : Tryz.f65.body = some (Tryz.f65.body.getD .skip) := by kernel_rfl
  exact calls_of_exec2' (P := Tryz.prog) (fn := Tryz.f65) (c := Tryz.f65.body.getD .skip) (args := [Value.pointer
    (some { block := b, off := 0 }),
  Value.func (Fn.func f) fa fb]) (w := w) (R := R) pur1_ok Tryz.func65 hb e h

end Go.Proofs.YtfacflbmlfbeeaaGreatDoor

/- Chapter 39: a queue is read and written; the contracts of begin, New, isModerator, Moderators, of leases. The library's variable MaxLen holds a number. -/
namespace Go.Proofs.YtfacflbmlfbeeaaGreatDoor
open Go.RowKit Go.Sort Go.Maps

/-! ### What is kept -/
/-- A block without bytes. -/
def NU (w : World) (k : Nat) : Prop := ∀ o i, ¬ w.cell? ⟨k, o, none⟩ = some (.int .u8 i)
theorem RowA.kpU {α : Type} {f : α → List Value} {L : Nat} {w w' : World} {p : Option Addr} {l : List α} {M : Nat → Prop} (h : RowA f L w p l) (hf : ∀ y, ∃ i, (f y)[0]? = some (.int .u8 i)) (hk : Kp M w w') (hm : ∀ k, M k → NU w k) : RowA f L w' p l := fun k y hy => by
  obtain ⟨b, o, h1, h2⟩ := h k y hy
  refine ⟨b, o, h1, ⟨At_of _ _ fun j u hu => hk.cell' (h2.cell hu) (fun e => ?_)⟩⟩
  obtain ⟨i, hi⟩ := hf y
  exact hm b e _ _ (h2.cell hi)
theorem auC_u (y : Nat → Int) : ∃ i, (auC y)[0]? = some (.int .u8 i) := ⟨y 0, rfl⟩
theorem sbC_u (y : Sb) : ∃ i, (sbC y)[0]? = some (.int .u8 i) := ⟨y.id 0, rfl⟩
theorem enC_u (y : En) : ∃ i, (enC y)[0]? = some (.int .u8 i) := ⟨y.s.id 0, rfl⟩
theorem nu_map {w : World} {k : Nat} {es : Array MapEntry} {c : Nat} (h : w.heap[k]? = some (.map es c)) : NU w k := fun o i hc => by
  unfold World.cell? at hc
  simp only [h] at hc
  cases hc
theorem cell_ne_map39 {w : World} {g o mb : Nat} {v : Value} {es : Array MapEntry} {c : Nat} (h : w.cell? ⟨g, o, none⟩ = some v) (hm : w.heap[mb]? = some (.map es c)) : g ≠ mb := fun e => by
  subst e
  unfold World.cell? at h
  simp only [hm] at h
  cases h
/-- The blocks of a queue. -/
def QB (b mb eb : Nat) (k : Nat) : Prop := k = b ∨ k = mb ∨ k = eb
section
variable {w w' : World} {b mb eb : Nat} {q : Qu}
theorem Mq.k0 (h : Mq w b mb eb q) (hk : K0 w w') : Mq w' b mb eb q :=
  ⟨hk.blk h.st (fun h => h), h.mm.kp hk (fun h => h), h.me.kp hk (fun h => h), fun g x hx => (h.row g x hx).k0 hk, h.ne, h.nz⟩
theorem Mq.bm (h : Mq w b mb eb q) : b ≠ mb := fun e => by
  obtain ⟨es, c, hb, _⟩ := h.mm.blk
  have := h.st
  rw [e, hb] at this; cases this
theorem Mq.be (h : Mq w b mb eb q) : b ≠ eb := fun e => by
  obtain ⟨es, c, hb, _⟩ := h.me.blk
  have := h.st
  rw [e, hb] at this; cases this
theorem Mq.nu (h : Mq w b mb eb q) : ∀ k, QB b mb eb k → NU w k := fun k hk => by
  rcases hk with rfl | rfl | rfl
  · intro o i hc
    unfold World.cell? at hc
    simp only [h.st] at hc
    rcases o with _ | _ | _ | _ | _ | o <;> simp at hc
  · obtain ⟨es, c, hb, _⟩ := h.mm.blk; exact nu_map hb
  · obtain ⟨es, c, hb, _⟩ := h.me.blk; exact nu_map hb
theorem Mq.gw (h : Mq w b mb eb q) (hk : Kp (QB b mb eb) w w') (hG : GW w) : GW w' := hG.kp hk (fun e => by
  rcases e with e | e | e
  · exact h.nz e.symm
  · obtain ⟨es, c, hb, _⟩ := h.mm.blk
    obtain ⟨m, hm⟩ := hG
    exact cell_ne_map39 hm hb e
  · obtain ⟨es, c, hb, _⟩ := h.me.blk
    obtain ⟨m, hm⟩ := hG
    exact cell_ne_map39 hm hb e)
theorem Mq.cR (h : Mq w b mb eb q) : w.cell? ⟨b, 0, none⟩ = some (.int .i64 q.room) := cell_at h.st rfl
theorem Mq.cD (h : Mq w b mb eb q) : w.cell? ⟨b, 0 + 1, none⟩ = some (.int .i64 q.days) := cell_at h.st rfl
theorem Mq.cW (h : Mq w b mb eb q) : w.cell? ⟨b, 0 + 2, none⟩ = some (.int .i64 q.wt) := cell_at h.st rfl
theorem Mq.cM (h : Mq w b mb eb q) : w.cell? ⟨b, 0 + 3, none⟩ = some (.map (some mb)) := cell_at h.st rfl
theorem Mq.cE (h : Mq w b mb eb q) : w.cell? ⟨b, 0 + 4, none⟩ = some (.map (some eb)) := cell_at h.st rfl
/-- The moderators of a group. -/
def Qu.md (q : Qu) (g : ByteArray) : MX := (aget q.ms g).getD mxz
def Qu.en (q : Qu) (k : Ky) : En := (aget q.es k).getD enz
theorem zeroMs (w : World) : (zeroValue 28).run Tryz.prog w = .ok (mxV mxz) w := by kernel_rfl
theorem zeroEn (w : World) : (zeroValue 107).run Tryz.prog w = .ok (enV enz) w := by kernel_rfl
theorem Mq.lookM (h : Mq w b mb eb q) {g : ByteArray} (hg : g.size ≤ 1073741824) : LookP Tryz.prog 95 (.map (some mb)) (.string g) false (mxV (q.md g)) w := by
  obtain ⟨kl, hkl⟩ := stKey hg
  have := MapB.look stInj h.mm stKeyed Tryz.underlying95 (zeroMs w) hkl false
  rw [aget_amap] at this
  unfold Qu.md
  cases hgt : aget q.ms g with
  | none => rw [hgt] at this; exact this
  | some x => rw [hgt] at this; exact this
theorem Mq.rowM (h : Mq w b mb eb q) (g : ByteArray) : RowA auC 16 w (q.md g).p (q.md g).l := by
  unfold Qu.md
  cases hgt : aget q.ms g with
  | none => exact RowA.nil
  | some x => exact h.row g x hgt
theorem Mq.lookE (h : Mq w b mb eb q) {f : Nat → Int} (hf : BY f) {g : ByteArray} (hg : g.size ≤ 1073741824) : LookP Tryz.prog 96 (.map (some eb)) (.agg (arrI .u8 f 32 0 ++ ([.string g] : List Value)).toArray) true (.tuple #[enV (q.en (idI f, g)), .bool (aget q.es (idI f, g)).isSome]) w := by
  obtain ⟨kl, hkl⟩ := kyKey (k := (idI f, g)) (idI_len f) (idI_bd hf) hg
  have := MapB.look kyV_inj h.me kyKeyed Tryz.underlying96 (zeroEn w) hkl true
  rw [aget_amap] at this
  unfold Qu.en
  cases hgt : aget q.es (idI f, g) with
  | none => rw [hgt] at this; exact this
  | some x => rw [hgt] at this; exact this
theorem Mq.look1 (h : Mq w b mb eb q) {f : Nat → Int} (hf : BY f) {g : ByteArray} (hg : g.size ≤ 1073741824) : LookP Tryz.prog 96 (.map (some eb)) (.agg (arrI .u8 f 32 0 ++ ([.string g] : List Value)).toArray) false (enV (q.en (idI f, g))) w := by
  obtain ⟨kl, hkl⟩ := kyKey (k := (idI f, g)) (idI_len f) (idI_bd hf) hg
  have := MapB.look kyV_inj h.me kyKeyed Tryz.underlying96 (zeroEn w) hkl false
  rw [aget_amap] at this
  unfold Qu.en
  cases hgt : aget q.es (idI f, g) with
  | none => rw [hgt] at this; exact this
  | some x => rw [hgt] at this; exact this
/-- An entry is written. -/
theorem Mq.updE (h : Mq w b mb eb q) (x : En) {f : Nat → Int} (hf : BY f) {g : ByteArray} (hg : g.size ≤ 1073741824) :
    ∃ w1, UpdP Tryz.prog 96 (.map (some eb)) (.agg (arrI .u8 f 32 0 ++ ([.string g] : List Value)).toArray) (enV x) w w1 ∧ Mq w1 b mb eb { q with es := aset q.es (idI f, g) x } ∧ Kp (· = eb) w w1 := by
  obtain ⟨kl, hkl⟩ := kyKey (k := (idI f, g)) (idI_len f) (idI_bd hf) hg
  obtain ⟨w1, hu, hm, hk⟩ := MapB.upd kyV_inj h.me kyKeyed Tryz.underlying96 hkl (enV x)
  rw [aset_amap] at hm
  exact ⟨w1, hu, ⟨hk.blk h.st h.be, h.mm.kp hk h.ne, hm, fun g x hx => (h.row g x hx).kpU auC_u hk (fun k e => h.nu k (.inr (.inr e))), h.ne, h.nz⟩, hk⟩
theorem Mq.delE (h : Mq w b mb eb q) {f : Nat → Int} (hf : BY f) {g : ByteArray} (hg : g.size ≤ 1073741824) :
    ∃ w1, BltP Tryz.prog .delete [96, 103] [.map (some eb), .agg (arrI .u8 f 32 0 ++ ([.string g] : List Value)).toArray] w w1 ∧ Mq w1 b mb eb { q with es := adel q.es (idI f, g) } ∧ Kp (· = eb) w w1 := by
  obtain ⟨kl, hkl⟩ := kyKey (k := (idI f, g)) (idI_len f) (idI_bd hf) hg
  obtain ⟨w1, hu, hm, hk⟩ := MapB.del kyV_inj h.me kyKeyed Tryz.underlying96 hkl
  have e : adel (amap enV q.es) (idI f, g) = amap enV (adel q.es (idI f, g)) := by unfold adel amap; rw [List.filter_map]; rfl
  rw [e] at hm
  exact ⟨w1, hu, ⟨hk.blk h.st h.be, h.mm.kp hk h.ne, hm, fun g x hx => (h.row g x hx).kpU auC_u hk (fun k e => h.nu k (.inr (.inr e))), h.ne, h.nz⟩, hk⟩
/-- The moderators of a group are written. -/
theorem Mq.updM (h : Mq w b mb eb q) (x : MX) (hx : RowA auC 16 w x.p x.l) {g : ByteArray} (hg : g.size ≤ 1073741824) :
    ∃ w1, UpdP Tryz.prog 95 (.map (some mb)) (.string g) (mxV x) w w1 ∧ Mq w1 b mb eb { q with ms := aset q.ms g x } ∧ Kp (· = mb) w w1 := by
  obtain ⟨kl, hkl⟩ := stKey hg
  obtain ⟨w1, hu, hm, hk⟩ := MapB.upd stInj h.mm stKeyed Tryz.underlying95 hkl (mxV x)
  rw [aset_amap] at hm
  have nu := fun k (e : k = mb) => h.nu k (.inr (.inl e))
  refine ⟨w1, hu, ⟨hk.blk h.st h.bm, hm, h.me.kp hk (fun e => h.ne e.symm), fun g' y hy => ?_, h.ne, h.nz⟩, hk⟩
  have hy : aget (aset q.ms g x) g' = some y := hy
  rw [aget_aset] at hy
  split at hy
  · cases hy; exact hx.kpU auC_u hk nu
  · exact (h.row g' y hy).kpU auC_u hk nu
theorem Mq.delM (h : Mq w b mb eb q) {g : ByteArray} (hg : g.size ≤ 1073741824) :
    ∃ w1, BltP Tryz.prog .delete [95, 9] [.map (some mb), .string g] w w1 ∧ Mq w1 b mb eb { q with ms := adel q.ms g } ∧ Kp (· = mb) w w1 := by
  obtain ⟨kl, hkl⟩ := stKey hg
  obtain ⟨w1, hu, hm, hk⟩ := MapB.del stInj h.mm stKeyed Tryz.underlying95 hkl
  have e : adel (amap mxV q.ms) g = amap mxV (adel q.ms g) := by unfold adel amap; rw [List.filter_map]; rfl
  rw [e] at hm
  have nu := fun k (e : k = mb) => h.nu k (.inr (.inl e))
  refine ⟨w1, hu, ⟨hk.blk h.st h.bm, hm, h.me.kp hk (fun e => h.ne e.symm), fun g' y hy => ?_, h.ne, h.nz⟩, hk⟩
  have hy : aget (adel q.ms g) g' = some y := hy
  rw [aget_adel] at hy
  split at hy
  · cases hy
  · exact (h.row g' y hy).kpU auC_u hk nu
/-- The number of waiting submissions is written. -/
theorem Mq.putW (h : Mq w b mb eb q) {v : Int} (hp : PutB w b (0 + 2) [.int .i64 v] w') : Mq w' b mb eb { q with wt := v } := by
  refine ⟨?_, h.mm.kp hp.kp (fun e => h.bm e.symm), h.me.kp hp.kp (fun e => h.be e.symm), fun g x hx => (h.row g x hx).kpU auC_u hp.kp (fun k e => h.nu k (.inl e)), h.ne, h.nz⟩
  rw [hp.block h.st]; rfl
theorem Mq.wrW (h : Mq w b mb eb q) : (∃ u : Value, w.cell? ⟨b, 0 + 2, none⟩ = some u) ∧ w.frozen? ⟨b, 0 + 2, none⟩ = false := ⟨⟨_, h.cW⟩, frozen_block h.st _⟩
end

/-! ### Small functions -/
def minB (now : Int) : Bool := decide (0 ≤ now) && decide (now ≤ 105190559)
theorem isMin_any (now : Int) (w : World) : Calls Tryz.prog 86 #[.int .i64 now] w fun e w' => e = .returned (.bool (minB now)) ∧ K0 w w' :=
  vc_isMin now w _ ⟨rfl, .refl _ _⟩
theorem begin_any (b : Nat) (now : Int) (w : World) : Calls Tryz.prog 48 #[.pointer (some ⟨b, 0, none⟩), .int .i64 now] w fun e w' => e = .returned (.int .i64 (if minB now = true then 0 else 2)) ∧ K0 w w' := by
  refine vc_begin_ _ now w _ (bsp_intro (fun h => by cases h) (fun _ => ⟨(isMin_any now w).mono fun e w1 ⟨he, k1⟩ => ⟨_, he, .of_k0 k1, ?_⟩⟩))
  refine bsp_intro (fun h => ?_) (fun h => ?_)
  · have h : minB now = false := by simpa using h
    rw [h]; exact ⟨rfl, k1⟩
  · have h : minB now = true := by simpa using h
    rw [h]; exact ⟨rfl, k1⟩
theorem begin0_any (now : Int) (w : World) : Calls Tryz.prog 48 #[.pointer none, .int .i64 now] w fun e w' => e = .returned (.int .i64 1) ∧ K0 w w' :=
  vc_begin_ _ now w _ (bsp_intro (fun _ => ⟨rfl, .refl _ _⟩) (fun h => by cases h))
def newR (room days : Int) : Bool := decide (room < 1) || decide (10000 < room) || decide (days < 1) || decide (365 < days)
theorem mnew_any (room days : Int) (w : World) (hw : 0 < w.heap.size) : Calls Tryz.prog 13 #[.int .i64 room, .int .i64 days] w fun e w' =>
    (newR room days = true ∧ e = .returned (.tuple #[.pointer none, .int .i64 2]) ∧ K0 w w') ∨
    (newR room days = false ∧ ∃ b mb eb, e = .returned (.tuple #[.pointer (some ⟨b, 0, none⟩), .int .i64 0]) ∧ Mq w' b mb eb ⟨room, days, 0, [], []⟩ ∧ K0 w w' ∧ w.heap.size ≤ b ∧ w.heap.size ≤ mb ∧ w.heap.size ≤ eb) := by
  refine vc_mnew room days w _ (bsp_intro (fun h => .inl ⟨h, rfl, .refl _ _⟩) (fun h => fun mb w1 h1 => ⟨.of_k0 (h1.kp _), fun eb w2 h2 => ⟨.of_k0 (h2.kp _), fun b W hW => .inr ⟨h, b, mb, eb, rfl, ?_, ?_⟩⟩⟩))
  · have k2 : K0 w2 W := hW.kk rfl
    have k1 : K0 w1 W := (h2.kp _).trans k2
    have gb := hW.fresh 0 rfl rfl
    have g1 := h1.ge
    have g2 := h2.ge
    have s1 := h1.size
    refine ⟨hW.cells 0 rfl, (NewB.map h1).kp k1 (fun h => h), (NewB.map h2).kp k2 (fun h => h), (fun g x hx => by cases hx), (fun e => by omega), fun e => ?_⟩
    have gb : w2.heap.size ≤ b := gb
    have := (h2.kp (fun _ => False)).size
    have e : b = 0 := e
    omega
  · have gb : w2.heap.size ≤ b := hW.fresh 0 rfl rfl
    have := (h1.kp (fun _ => False)).size
    have := (h2.kp (fun _ => False)).size
    exact ⟨((h1.kp _).trans (h2.kp _)).trans (hW.kk rfl), by omega, h1.ge, by have := h2.ge; omega⟩
def isMB (x : MX) (a : Nat → Int) : Bool := decide (auI a ∈ x.l.map auI)
theorem ismod_any {w : World} {b mb eb : Nat} {q : Qu} (h : Mq w b mb eb q) (ho : q.OK) (g : ByteArray) (hg : g.size ≤ 1073741824) (a : Nat → Int) (ha : BY a) :
    Calls Tryz.prog 75 #[.pointer (some ⟨b, 0, none⟩), .string g, .agg (arrI .u8 a 16 0).toArray] w fun e w' => e = .returned (.bool (isMB (q.md g) a)) ∧ K0 w w' := by
  refine vc_ismod b g a w _ (fun n => ⟨some mb, fun W hW => (h.k0 (hW.kk rfl)).cM, _, _, _, fun W hW => (h.k0 (hW.kk rfl)).lookM hg, fun W hW => ?_⟩)
  have kW : K0 w W := hW.kk rfl
  have hb : (∀ m ∈ (q.md g).l, BY m) ∧ (q.md g).l.length ≤ 8 := by
    unfold Qu.md
    cases hgt : aget q.ms g with
    | none => exact ⟨(fun m hm => by cases hm), by decide⟩
    | some x => exact ⟨fun m hm => ((ho.ms g x hgt).2.1.by_ m hm).1, (ho.ms g x hgt).2.1.len⟩
  exact ⟨(acont_any (q.md g).l (q.md g).p (q.md g).c a W ((h.k0 kW).rowM g) hb.1 ha (by omega)).mono fun e w2 ⟨he, k2⟩ => ⟨_, he, .of_k0 k2, rfl, kW.trans k2⟩⟩
theorem inEff_any (x : En) (now : Int) (hs : 0 ≤ x.si ∧ x.si ≤ 105190559) (hn : 0 ≤ now ∧ now ≤ 105190559) (w : World) :
    Calls Tryz.prog 81 #[.agg (([.bool x.le] : List Value) ++ (arrI .u8 x.ho 16 0 ++ ([.int .i64 x.si] : List Value))).toArray, .int .i64 now] w fun e w' => e = .returned (.bool (inE x now)) ∧ K0 w w' := by
  refine vc_inEff x.le x.ho x.si now w _ (fun n => ⟨x.si, gimp_intro fun _ W hW => cell_at (hW.cells 0 rfl) rfl, x.si, gimp_intro fun _ W hW => cell_at (hW.cells 0 rfl) rfl, fun W hW => ⟨?_, hW.kk rfl⟩⟩)
  unfold inE
  rw [wr64 (by omega) (by omega), Bool.and_assoc]
theorem blocked_any (x : En) (a : Nat → Int) (now : Int) (hx : x.OK) (ha : BY a) (hn : 0 ≤ now ∧ now ≤ 105190559) (w : World) :
    Calls Tryz.prog 77 #[enV x, .agg (arrI .u8 a 16 0).toArray, .int .i64 now] w fun e w' => e = .returned (.bool (blk x (auI a) now)) ∧ K0 w w' := by
  refine vc_blocked x.s.id x.s.mo x.s.g x.s.tx x.s.r x.s.st x.s.de x.s.rs x.le x.ho x.si a now w _ (fun n n1 W hW => ?_)
  have kW : K0 w W := hW.kk rfl
  refine ⟨(inEff_any x now hx.si hn W).mono fun e w1 ⟨he, k1⟩ => ⟨_, he, .of_k0 k1, x.ho, gimp_intro fun _ => AtL_block (k1.blk (hW.cells 1 rfl) (fun h => h)) rfl, _, gimp_intro fun _ => auEq hx.ho ha, ?_, kW.trans k1⟩⟩
  rfl

end Go.Proofs.YtfacflbmlfbeeaaGreatDoor

/- The formulas of functions by the symbolic evaluator, and that each gives the call's contract. Written by a program (gen.py). No condition. -/
namespace Go.Proofs.YtfacflbmlfbeeaaGreatDoor
set_option maxRecDepth 100000
set_option linter.unusedVariables false

def VC_list_ (b : Nat) (s : ByteArray) (st : Int) (w : World) (R : Ending → World → Prop) : Prop :=
 ∀ (n n_1 : Nat) (W : World),
 Loc w.heap.size [Blk.mk n_1 3 [Value.int IntKind.i64 st] 2, Blk.mk n 9 [Value.string s] 2] w W →
 CallsS Tryz.prog 65
 #[Value.pointer (some (Addr.mk b 0 none)),
 Value.func (Fn.func 66) #[] #[Value.pointer (some (Addr.mk n 0 none)), Value.pointer (some (Addr.mk n_1 0 none))]]
 W fun (e : Ending) (w' : World) =>
 ∃ (p : Option Addr),
 ∃ (n : Nat),
 ∃ (c : Nat),
 e = Ending.returned (Value.slice p n c) ∧
 KeptL [] W w' ∧
 CallsS Tryz.prog 67 #[Value.slice p n c, Value.func (Fn.func 68) #[] #[]] w' fun (e : Ending) (w'_1 : World) =>
 e = Ending.returned (Value.tuple #[]) ∧ KeptL [] w' w'_1 ∧ R (Ending.returned (Value.slice p n c)) w'_1
theorem vc_list_ (b : Nat) (s : ByteArray) (st : Int) (w : World) (R : Ending → World → Prop) (h : VC_list_ b s st w R) : Calls Tryz.prog 32 ([Value.pointer
    (some { block := b, off := 0 }),
  Value.string s, Value.int IntKind.i64 st] : List Value).toArray w R := by
  have e : execR2 { P := Tryz.prog, loops := [], pur := pur1, tails := [], joins := [], boxes := [] } Tryz.f32.results.toList R (Tryz.f32.body.getD .skip) (initF [Value.pointer
    (some { block := b, off := 0 }),
  Value.string s,
  Value.int IntKind.i64
    st] (Tryz.f32.ntmps - ([Value.pointer (some { block := b, off := 0 }), Value.string s,
  Value.int IntKind.i64 st] : List Value).length)) w = VC_list_ b s st w R := by kernel_rfl
  have hb : Tryz.f32.body = some (Tryz.f32.body.getD .skip) := by kernel_rfl
  exact calls_of_exec2' (P := Tryz.prog) (fn := Tryz.f32) (c := Tryz.f32.body.getD .skip) (args := [Value.pointer
    (some { block := b, off := 0 }),
  Value.string s, Value.int IntKind.i64 st]) (w := w) (R := R) pur1_ok Tryz.func32 hb e h

def VC_count_ (b : Nat) (s : ByteArray) (st : Int) (w : World) (R : Ending → World → Prop) : Prop :=
 CallsS Tryz.prog 32 #[Value.pointer (some (Addr.mk b 0 none)), Value.string s, Value.int IntKind.i64 st] w
 fun (e : Ending) (w' : World) =>
 ∃ (p : Option Addr),
 ∃ (n : Nat),
 ∃ (c : Nat),
 e = Ending.returned (Value.slice p n c) ∧ KeptL [] w w' ∧ R (Ending.returned (Value.int IntKind.i64 (↑n : Int))) w'
theorem vc_count_ (b : Nat) (s : ByteArray) (st : Int) (w : World) (R : Ending → World → Prop) (h : VC_count_ b s st w R) : Calls Tryz.prog 15 ([Value.pointer
    (some { block := b, off := 0 }),
  Value.string s, Value.int IntKind.i64 st] : List Value).toArray w R := by
  have e : execR2 { P := Tryz.prog, loops := [], pur := pur1, tails := [], joins := [], boxes := [] } Tryz.f15.results.toList R (Tryz.f15.body.getD .skip) (initF [Value.pointer
    (some { block := b, off := 0 }),
  Value.string s,
  Value.int IntKind.i64
    st] (Tryz.f15.ntmps - ([Value.pointer (some { block := b, off := 0 }), Value.string s,
  Value.int IntKind.i64 st] : List Value).length)) w = VC_count_ b s st w R := by kernel_rfl
  have hb : Tryz.f15.body = some (Tryz.f15.body.getD .skip) := by kernel_rfl
  exact calls_of_exec2' (P := Tryz.prog) (fn := Tryz.f15) (c := Tryz.f15.body.getD .skip) (args := [Value.pointer
    (some { block := b, off := 0 }),
  Value.string s, Value.int IntKind.i64 st]) (w := w) (R := R) pur1_ok Tryz.func15 hb e h

def VC_setMods (b : Nat) (s : ByteArray) (p : Option Addr) (n : Nat) (c : Nat) (w : World) (R : Ending → World → Prop) : Prop :=
 CallsS Tryz.prog 49 #[Value.string s] w fun (e : Ending) (w' : World) =>
 ∃ (x : Int),
 e = Ending.returned (Value.int IntKind.i64 x) ∧
 KeptL [] w w' ∧
 bsp (x != 0) (R (Ending.returned (Value.int IntKind.i64 x)) w')
 (bsp (decide ((↑n : Int) > 8)) (R (Ending.returned (Value.int IntKind.i64 9)) w')
 (CallsS Tryz.prog 72 #[Value.slice p n c] w' fun (e : Ending) (w'_1 : World) =>
 ∃ (x : Value),
 e = Ending.returned x ∧
 KeptL [] w' w'_1 ∧
 CallsS Tryz.prog 71 #[x, Value.func (Fn.func 73) #[] #[]] w'_1 fun (e : Ending) (w' : World) =>
 ∃ (p : Option Addr),
 ∃ (n_1 : Nat),
 ∃ (c : Nat),
 e = Ending.returned (Value.slice p n_1 c) ∧
 KeptL [] w'_1 w' ∧
 CallsS Tryz.prog 47 #[Value.slice p n_1 c] w' fun (e : Ending) (w'_2 : World) =>
 ∃ (p_1 : Option Addr),
 ∃ (n_2 : Nat),
 ∃ (c_1 : Nat),
 e = Ending.returned (Value.slice p_1 n_2 c_1) ∧
 KeptL [] w' w'_2 ∧
 CallsS Tryz.prog 74 #[Value.slice p_1 n_2 c_1] w'_2 fun (e : Ending) (w' : World) =>
 ∃ (p_2 : Option Addr),
 ∃ (n_3 : Nat),
 ∃ (c_2 : Nat),
 e = Ending.returned (Value.slice p_2 n_3 c_2) ∧
 KeptL [] w'_2 w' ∧
 bsp (decide ((↑n_3 : Int) < (↑n : Int))) (R (Ending.returned (Value.int IntKind.i64 7)) w')
 (bsp ((↑n_1 : Int) == 0)
 (∃ (x : Option Nat),
 w'.cell? (Addr.mk b (0 + 3) none) = some (Value.map x) ∧
 ∃ (w1 : World),
 BltP Tryz.prog Builtin.delete [95, 9] [Value.map x, Value.string s] w' w1 ∧
 KeptL [] w' w1 ∧ R (Ending.returned (Value.int IntKind.i64 0)) w1)
 (∃ (x : Option Nat),
 w'.cell? (Addr.mk b (0 + 3) none) = some (Value.map x) ∧
 bsp x.isNone
 (∀ (n : Nat) (w1 : World),
 NewB w' (Obj.map #[] 0) n w1 →
 KeptL [] w' w1 ∧
 ((∃ (u : Value), w1.cell? (Addr.mk b (0 + 3) none) = some u) ∧
 w1.frozen? (Addr.mk b (0 + 3) none) = false) ∧
 ∀ (w1_1 : World),
 PutB w1 b (0 + 3) [Value.map (some n)] w1_1 →
 KeptL [] w1 w1_1 ∧
 ∃ (x : Option Nat),
 w1_1.cell? (Addr.mk b (0 + 3) none) = some (Value.map x) ∧
 ∃ (w1 : World),
 UpdP Tryz.prog 95 (Value.map x) (Value.string s) (Value.slice p n_1 c) w1_1
 w1 ∧
 KeptL [] w1_1 w1 ∧ R (Ending.returned (Value.int IntKind.i64 0)) w1)
 (∃ (x : Option Nat),
 w'.cell? (Addr.mk b (0 + 3) none) = some (Value.map x) ∧
 ∃ (w1 : World),
 UpdP Tryz.prog 95 (Value.map x) (Value.string s) (Value.slice p n_1 c) w' w1 ∧
 KeptL [] w' w1 ∧ R (Ending.returned (Value.int IntKind.i64 0)) w1)))))
theorem vc_setMods (b : Nat) (s : ByteArray) (p : Option Addr) (n : Nat) (c : Nat) (w : World) (R : Ending → World → Prop) (h : VC_setMods b s p n c w R) : Calls Tryz.prog 38 ([Value.pointer
    (some { block := b, off := 0 }),
  Value.string s, Value.slice p n c] : List Value).toArray w R := by
  have e : execR2 { P := Tryz.prog, loops := [], pur := pur1, tails := [], joins := [], boxes := [] } Tryz.f38.results.toList R (Tryz.f38.body.getD .skip) (initF [Value.pointer
    (some { block := b, off := 0 }),
  Value.string s,
  Value.slice p n
    c] (Tryz.f38.ntmps - ([Value.pointer (some { block := b, off := 0 }), Value.string s,
  Value.slice p n c] : List Value).length)) w = VC_setMods b s p n c w R := by kernel_rfl
  have hb : Tryz.f38.body = some (Tryz.f38.body.getD .skip) := by kernel_rfl
  exact calls_of_exec2' (P := Tryz.prog) (fn := Tryz.f38) (c := Tryz.f38.body.getD .skip) (args := [Value.pointer
    (some { block := b, off := 0 }),
  Value.string s, Value.slice p n c]) (w := w) (R := R) pur1_ok Tryz.func38 hb e h

end Go.Proofs.YtfacflbmlfbeeaaGreatDoor
