/- Chapter 39: the contracts of the sort of submissions, of slices.SortedFunc, Compact, MinFunc. Rows that are not too long. -/
import Derived.Test.YtfacflbmlfbeeaaGreatDoorZ05
import Derived.Test.YtfacflbmlfbeeaaGreatDoorProg
import Derived.Test.YtfacflbmlfbeeaaGreatDoorZ02
import Derived.Test.YtfacflbmlfbeeaaGreatDoorZ04
import Derived.Test.YtfacflbmlfbeeaaGreatDoorZ03
import Derived.KernelRfl
namespace Go.Proofs.YtfacflbmlfbeeaaGreatDoor
open Go.RowKit Go.Sort
theorem attach_map {α : Type} {P : α -> Prop} : ∀ (l : List α), (∀ x ∈ l, P x) -> ∃ cs : List {x // P x}, cs.map (·.1) = l
 | [], _ => ⟨[], rfl⟩
 | x :: l, h => by
  obtain ⟨cs, hc⟩ := attach_map l fun y hy => h y (by simp [hy])
  exact ⟨⟨x, h x (by simp)⟩ :: cs, by simp [hc]⟩
theorem flat_x (cs : List SbX) : cs.flatMap sbXC = (cs.map (·.1)).flatMap sbC := by
 induction cs with
 | nil => rfl
 | cons x r ih => simp only [List.flatMap_cons, List.map_cons]; rw [ih]; rfl
theorem msort_any (l : List Sb) (p : Option Addr) (c : Nat) (w : World) {base : Nat} (ho : w.ownsRow base 48 54 (.slice p l.length c) l.length (l.flatMap sbC)) (hg : ∀ x ∈ l, x.g.size <= 1073741824) (hl : l.length <= 1000000) (hG : GW w) :
  Calls Tryz.prog 67 #[.slice p l.length c, .func (.func 68) #[] #[]] w fun e w' => e = .returned (.tuple #[]) /\
   ∃ l' : List Sb, l'.Perm l /\ (l'.Pairwise fun x y => ¬ cfM y x < 0) /\
    w'.ownsRow base 48 54 (.slice p l'.length c) l'.length (l'.flatMap sbC) /\ Kp (fun i => (Value.slice p l.length c).ownBlock = some i) w w' := by
 obtain ⟨cs, hc⟩ := attach_map l hg
 have hlen : cs.length = l.length := by rw [<- hc, List.length_map]
 rw [<- hlen] at ho ⊢
 rw [<- hc, <- flat_x] at ho
 refine (msortX_any cs p c w ho (by omega) hG).mono fun e w' ⟨he, cs', hp, hs, ho', hk⟩ => ⟨he, cs'.map (·.1), ?_, ?_, ?_, hk⟩
 ·rw [<- hc]; exact hp.map _
 ·rw [List.pairwise_map]; exact hs
 ·rw [List.length_map, <- flat_x]; exact ho'
theorem asorted_any (zs : List (Nat -> Int)) (p : Option Addr) (c Bs : Nat) (w : World) (hB : w.cell? ⟨Bs, 0, none⟩ = some (.slice p zs.length c)) (hBs : Bs < w.heap.size) (hR : RowA auC 16 w p zs) (hp : ∀ g o, p = some ⟨g, o, none⟩ -> g < w.heap.size) (hz : zs.length <= 1000000) :
  Calls Tryz.prog 71 #[.func (.func 105) #[] #[.pointer (some ⟨Bs, 0, none⟩)], .func (.func 73) #[] #[]] w fun e w' =>
   (∃ (p' : Option Addr) (c' : Nat) (l' : List (Nat -> Int)), e = .returned (.slice p' l'.length c') /\ l'.Perm zs /\ (l'.Pairwise fun x y => ¬ cfA y x < 0) /\ w'.ownsRow w.heap.size 45 16 (.slice p' l'.length c') l'.length (l'.flatMap auC)) /\ K0 w w' := by
 refine vc_asorted _ _ _ _ _ _ w _ ?_
 have hcol : Calls Tryz.prog 103 #[.func (.func 105) #[] #[.pointer (some ⟨Bs, 0, none⟩)]] w fun e w' => (∃ (p' : Option Addr) (c' : Nat), e = .returned (.slice p' zs.length c') /\ w'.ownsRow w.heap.size 45 16 (.slice p' zs.length c') zs.length (zs.flatMap auC)) /\ K0 w w' := by
  refine vc_acollect _ _ _ w _ ⟨(callsIn_wide.1 (aapp_in 4 (by omega) Bs p c zs hz w hBs hB hR hp)).mono fun e w' ⟨v, he, ho, hb⟩ => ?_⟩
  have hk : K0 w w' := ⟨hb.os, hb.tape, hb.output, hb.size, fun i hi _ => hb.block i hi⟩
  rcases ho.2 with ⟨rfl, h0⟩ | ⟨g, cap, cur, rfl, _⟩
  ·exact ⟨none, 0, 0, he, .of_k0 hk, ⟨none, 0, by rw [h0], by rw [h0] at ho ⊢; exact ho⟩, hk⟩
  ·exact ⟨_, _, _, he, .of_k0 hk, ⟨_, _, rfl, ho⟩, hk⟩
 refine ⟨hcol.mono fun e w1 ⟨⟨p', c', he, ho⟩, k1⟩ => ⟨_, _, _, he, .of_k0 k1, ?_⟩⟩
 refine ⟨(asort_any zs p' c' w1 ho hz).mono fun e w2 ⟨he2, l', hp', hs, ho', k2⟩ => ?_⟩
 have k02 : K0 w w2 := k1.fresh k2 (fun i hi e => by have := own_ge ho e; omega)
 have hk2 : KeptL [] w1 w2 := .of_kp k2 (fun n hn => by cases hn)
 exact ⟨he2, hk2, ⟨p', c', l', by rw [hp'.length_eq], hp', hs, ho'⟩, k02⟩
def adjI (l : List (Nat -> Int)) : Prop := ∃ (k : Nat) (x y : Nat -> Int), l[k]? = some x /\ l[k + 1]? = some y /\ auI x = auI y
theorem zeroAu (w : World) : (zeroValue 45).run Tryz.prog w = .ok (auV fun _ => 0) w := by kernel_rfl
set_option maxHeartbeats 1000000 in
theorem acompact_any (l : List (Nat -> Int)) (p : Option Addr) (c : Nat) (w : World) {base : Nat} (ho : w.ownsRow base 45 16 (.slice p l.length c) l.length (l.flatMap auC)) (hb : ∀ m ∈ l, BY m) (hl : l.length <= 1000000) :
  Calls Tryz.prog 74 #[.slice p l.length c] w fun e w' => (∃ m : Nat, e = .returned (.slice p m c) /\ (m = l.length /\ ¬ adjI l \/ m < l.length /\ adjI l)) /\ Kp (fun i => (Value.slice p l.length c).ownBlock = some i) w w' := by
 refine vc_acompact p l.length c w _ (bsp_intro (fun h => ?_) (fun h => ?_))
 ·have h : l.length < 2 := by simp at h; omega
  refine ⟨⟨_, rfl, .inl ⟨rfl, fun ⟨k, x, y, h1, h2, _⟩ => ?_⟩⟩, .refl _ _⟩
  have := (List.getElem?_eq_some_iff.1 h2).1
  omega
 have h2 : 2 <= l.length := by simp at h; omega
 obtain ⟨g, cap, cur, hv, hbase, hg, hcap, hmax, hcs, _⟩ : ∃ g cap cur, Value.slice p l.length c = .slice (some ⟨g, 0, none⟩) l.length cap /\ base <= g /\ w.heap[g]? = some (.cells cur 45 (0, 0)) /\ l.length <= cap /\ cap <= maxLen /\ cur.size = cap * 16 /\ True := by
  rcases ho.2 with ⟨_, h0⟩ | ⟨g, cap, cur, hv, hb, hg, h4, h5, h6, h7⟩
  ·omega
  ·exact ⟨g, cap, cur, hv, hb, hg, h4, h5, h6, trivial⟩
 simp only [Value.slice.injEq, true_and] at hv
 obtain ⟨rfl, rfl⟩ := hv
 have hB : (Value.slice (some (Addr.mk g 0 none)) l.length c).ownBlock = some g := rfl
 have row : ∀ {W : World} {l' : List (Nat -> Int)}, l'.length = l.length -> W.ownsRow base 45 16 (.slice (some ⟨g, 0, none⟩) l.length c) l.length (l'.flatMap auC) -> ∀ k, k < l.length -> ∃ y, l'[k]? = some y /\ AtL W g (0 + k * 16) (auC y) := fun hlen ho k hk => by
  rw [<- hlen] at ho hk
  obtain ⟨y, b1, o1, hy, hp, hat⟩ := (RowA.own ho auC_length (by decide)).get hk
  obtain ⟨g', hg', hat'⟩ := own_at auC ho (fun y _ => auC_length y) (by decide) hy
  simp only [Option.some.injEq, Addr.mk.injEq, and_true] at hg'
  subst hg'
  exact ⟨y, hy, hat'⟩
 refine ⟨fun vs w' => ∃ x : Nat, vs = [.int .i64 (x : Int)] /\ 1 <= x /\ x <= l.length /\ K0 w w' /\ (∀ k a b, k + 1 < x -> l[k]? = some a -> l[k + 1]? = some b -> auI a ≠ auI b),
  fun vs _ => (match vs with | .int _ a :: _ => l.length - a.toNat | _ => 0), ⟨1, rfl, by omega, by omega, .refl _ _, fun k a b h => by omega⟩, ?_⟩
 rintro x w1 ⟨x, hv, hx1, hxl, k1, hno⟩
 simp only [List.cons.injEq, Value.int.injEq, true_and, and_true] at hv
 subst hv
 have ho1 := owns_kp ho k1 (fun _ _ h => h)
 refine bsp_intro (fun hlt => ?_) (fun hge => ?_)
 ·have hlt : x < l.length := by simp at hlt; omega
  obtain ⟨a, ha, hata⟩ := row rfl ho1 x hlt
  obtain ⟨b, hbb, hatb⟩ := row rfl ho1 (x - 1) (by omega)
  have e1 : IntKind.i64.wrap ((x : Int) - 1) = ((x - 1 : Nat) : Int) := by rw [wr64 (by omega) (by omega)]; omega
  rw [e1, Int.toNat_natCast, Int.toNat_natCast]
  refine nn_is rfl ⟨⟨by omega, by omega⟩, a, fun W hW => hata.k0 (hW.kk rfl), nn_is rfl ⟨⟨by omega, by omega⟩, b, fun W hW => hatb.k0 (hW.kk rfl), _, auEq (hb _ (List.mem_of_getElem? ha)) (hb _ (List.mem_of_getElem? hbb)), bsp_intro (fun hr => ?_) (fun hr => ?_)⟩⟩
  ·have hr : auI a = auI b := by simpa using hr
   have hadj : adjI l := ⟨x - 1, b, a, hbb, by rw [Nat.sub_add_cancel hx1]; exact ha, hr.symm⟩
   refine ⟨⟨by omega, by omega⟩, fun W hW => ?_⟩
   have kW : K0 w W := k1.trans (hW.kk rfl)
   have eS : slA (some (Addr.mk g 0 none)) c x 16 = some ⟨g, x * 16, none⟩ := by
    unfold slA
    rw [if_neg (by omega)]
    simp [add_plain]
   rw [eS]
   refine ⟨fun vs w' => ∃ (x1 x2 : Nat) (l' : List (Nat -> Int)), vs = [.int .i64 (x1 : Int), .int .i64 (x2 : Int)] /\ 1 <= x1 /\ x1 <= l.length - x /\ x <= x2 /\ x2 + 1 <= x + x1 /\ l'.length = l.length /\ (∀ m ∈ l', BY m) /\
     w'.ownsRow base 45 16 (.slice (some ⟨g, 0, none⟩) l.length c) l.length (l'.flatMap auC) /\ Kp (· = g) w w',
    fun vs _ => (match vs with | .int _ a :: _ => l.length - a.toNat | _ => 0), ⟨1, x, l, rfl, by omega, by omega, by omega, by omega, rfl, hb, owns_kp ho kW (fun _ _ h => h), kW.mono fun _ _ h => h.elim⟩, ?_⟩
   rintro y1 y2 w2 ⟨x1, x2, l', hv, h1, h3, h4, h5, hl', hb', ho2, k2⟩
   simp only [List.cons.injEq, Value.int.injEq, true_and, and_true] at hv
   obtain ⟨rfl, rfl⟩ := hv
   rw [Int.toNat_natCast, Int.toNat_natCast]
   refine bsp_intro (fun hlt2 => ?_) (fun hge2 => ?_)
   ·have hlt2 : x1 < l.length - x := by simp at hlt2; omega
    obtain ⟨a2, ha2, hata2⟩ := row hl' ho2 (x + x1) (by omega)
    obtain ⟨b2, hb2, hatb2⟩ := row hl' ho2 (x + x1 - 1) (by omega)
    have e2 : IntKind.i64.wrap ((x1 : Int) - 1) = ((x1 - 1 : Nat) : Int) := by rw [wr64 (by omega) (by omega)]; omega
    have o1 : 0 + (x + x1) * 16 = x * 16 + x1 * 16 := by omega
    have o2 : 0 + (x + x1 - 1) * 16 = x * 16 + (x1 - 1) * 16 := by omega
    rw [o1] at hata2
    rw [o2] at hatb2
    rw [e2, Int.toNat_natCast]
    have inc1 : IntKind.i64.wrap ((x1 : Int) + 1) = ((x1 + 1 : Nat) : Int) := inc64 (by omega)
    have inc2 : IntKind.i64.wrap ((x2 : Int) + 1) = ((x2 + 1 : Nat) : Int) := inc64 (by omega)
    refine nn_is rfl ⟨⟨by omega, by omega⟩, a2, fun W hW => hata2.k0 (hW.kk rfl), nn_is rfl ⟨⟨by omega, by omega⟩, b2, fun W hW => hatb2.k0 (hW.kk rfl), _, auEq (hb' _ (List.mem_of_getElem? ha2)) (hb' _ (List.mem_of_getElem? hb2)), bsp_intro (fun hr2 => ?_) (fun hr2 => ?_)⟩⟩
    ·refine nn_is rfl ⟨⟨by omega, by omega⟩, a2, fun W hW => hata2.k0 (hW.kk rfl), nn_is rfl ⟨⟨by omega, by omega⟩, fun W3 hW3 => ?_⟩⟩
     have k3 : K0 w2 W3 := hW3.kk rfl
     have ho3 := owns_kp ho2 k3 (fun _ _ h => h)
     obtain ⟨g', hg', hwr⟩ := own_wr ho3 (k := x2) (by omega)
     simp only [Option.some.injEq, Addr.mk.injEq, and_true] at hg'
     subst hg'
     refine ⟨hwr, fun w4 hp4 => ⟨.of_kp hp4.kp (fun n hn => by cases hn), ?_⟩⟩
     have ho4 := own_set (y := a2) ho3 hl'.symm auC_length (by decide) (by omega) hp4
     rw [inc1, inc2]
     refine ⟨⟨x1 + 1, x2 + 1, l'.set x2 a2, rfl, by omega, by omega, by omega, by omega, by rw [List.length_set]; exact hl', fun m hm => ?_, ho4, (k2.trans (k3.mono fun _ _ h => h.elim)).trans hp4.kp⟩, by simp only [Int.toNat_natCast]; omega⟩
     rcases List.mem_or_eq_of_mem_set hm with h | h
     ·exact hb' m h
     ·rw [h]; exact hb' _ (List.mem_of_getElem? ha2)
    ·intro W3 hW3
     have k3 : K0 w2 W3 := hW3.kk rfl
     rw [inc1]
     exact ⟨⟨x1 + 1, x2, l', rfl, by omega, by omega, h4, by omega, hl', hb', owns_kp ho2 k3 (fun _ _ h => h), k2.trans (k3.mono fun _ _ h => h.elim)⟩, by simp only [Int.toNat_natCast]; omega⟩
   ·have hge2 : x1 = l.length - x := by simp at hge2; omega
    obtain ⟨cur2, hcur, hsz⟩ : ∃ cur2, w2.heap[g]? = some (.cells cur2 45 (0, 0)) /\ cur2.size = c * 16 := by
     rcases ho2.2 with ⟨hv, _⟩ | ⟨g', cap, cur2, hv, hb2, hg2, h42, h52, h62, h72⟩
     ·simp at hv
     ·simp only [Value.slice.injEq, true_and, Option.some.injEq, Addr.mk.injEq, and_true] at hv
      obtain ⟨rfl, rfl⟩ := hv
      exact ⟨cur2, hg2, h62⟩
    have eZ : slA (some (Addr.mk g 0 none)) c x2 16 = some ⟨g, x2 * 16, none⟩ := by
     unfold slA
     rw [if_neg (by omega)]
     simp [add_plain]
    obtain ⟨w3, hbl, k3, _⟩ := clear_row (P := Tryz.prog) (w := w2) (t := 28) Tryz.underlying28 zeroAu (b := g) (o := x2 * 16) (m := l.length - x2) (c := c - x2) hcur (by omega)
     (by rw [hsz]; show x2 * 16 + (l.length - x2) * 16 <= c * 16; omega) (fun v hv => auC_one _ v (by simpa [auV, Value.cells] using hv))
    rw [eZ]
    refine ⟨⟨by omega, by omega⟩, w3, hbl, .of_kp k3 (fun n hn => by cases hn), ⟨by omega, by omega⟩, ⟨x2, rfl, .inr ⟨by omega, hadj⟩⟩, (k2.trans k3).mono fun i _ e => by rw [hB, e]⟩
  ·have hr : auI a ≠ auI b := by simpa using hr
   intro W hW
   rw [inc64 (by omega)]
   refine ⟨⟨x + 1, rfl, by omega, hlt, k1.trans (hW.kk rfl), fun k a' b' hk ha' hb' => ?_⟩, by simp only [Int.toNat_natCast]; omega⟩
   rcases Nat.lt_or_ge (k + 1) x with h | h
   ·exact hno k a' b' h ha' hb'
   ·have : k = x - 1 := by omega
    subst this
    rw [hbb] at ha'
    rw [Nat.sub_add_cancel hx1, ha] at hb'
    cases ha'; cases hb'
    exact fun e => hr e.symm
 ·have : x = l.length := by simp at hge; omega
  subst this
  refine ⟨⟨_, rfl, .inl ⟨rfl, fun ⟨k, a, b, h1, h3, h4⟩ => ?_⟩⟩, k1.mono fun _ _ h => h.elim⟩
  exact hno k a b (List.getElem?_eq_some_iff.1 h3).1 h1 h3 h4
end Go.Proofs.YtfacflbmlfbeeaaGreatDoor
namespace Go.Proofs.YtfacflbmlfbeeaaGreatDoor
set_option maxRecDepth 100000
set_option linter.unusedVariables false
def VC_mnew (room : Int) (days : Int) (w : World) (R : Ending -> World -> Prop) : Prop := bsp (decide (room < 1) || decide (room > 10000) || decide (days < 1) || decide (days > 365)) (R (.returned (.tuple #[.pointer none, .int .i64 2])) w) (∀ (n : Nat) (w1 : World), NewB w (Obj.map #[] 0) n w1 -> KeptL [] w w1 /\ ∀ (n_1 : Nat) (w1_1 : World), NewB w1 (Obj.map #[] 0) n_1 w1_1 -> KeptL [] w1 w1_1 /\ ∀ (n_2 : Nat) (W : World), Loc w.heap.size [Blk.mk n_2 98 [Value.int .i64 room, .int .i64 days, .int .i64 0, .map (some n), .map (some n_1)] 2] w1_1 W -> R (.returned (.tuple #[.pointer (some (Addr.mk n_2 0 none)), .int .i64 0])) W)
theorem vc_mnew (room : Int) (days : Int) (w : World) (R : Ending -> World -> Prop) (h : VC_mnew room days w R) : Calls Tryz.prog 13 ([Value.int .i64 room, .int .i64 days] : List Value).toArray w R :=
 calls_of_exec2' (loops := []) (tails := []) (joins := []) (boxes := []) (rngs := []) (c := Tryz.f13.body.getD .skip) pur1_ok Tryz.func13 (by kernel_rfl) (by kernel_rfl) h
def VC_ismod (b : Nat) (s : ByteArray) (a : Nat -> Int) (w : World) (R : Ending -> World -> Prop) : Prop := ∀ (n : Nat), ∃ (x : Option Nat), (∀ (W : World), Loc w.heap.size [Blk.mk n 45 (arrI .u8 a 16 0) 2] w W -> W.cell? (Addr.mk b (0 + 3) none) = some (.map x)) /\ ∃ (p : Option Addr) (n_1 : Nat) (c : Nat), (∀ (W : World), Loc w.heap.size [Blk.mk n 45 (arrI .u8 a 16 0) 2] w W -> LookP Tryz.prog 95 (.map x) (.string s) false (.slice p n_1 c) W) /\ ∀ (W : World), Loc w.heap.size [Blk.mk n 45 (arrI .u8 a 16 0) 2] w W -> CallsS Tryz.prog 107 #[.slice p n_1 c, .agg (arrI .u8 a 16 0).toArray] W fun (e : Ending) (w' : World) => ∃ (x : Bool), e = .returned (.bool x) /\ KeptL [n] W w' /\ R (.returned (.bool x)) w'
theorem vc_ismod (b : Nat) (s : ByteArray) (a : Nat -> Int) (w : World) (R : Ending -> World -> Prop) (h : VC_ismod b s a w R) : Calls Tryz.prog 75 ([Value.pointer (some { block := b, off := 0 }), .string s, .agg (arrI .u8 a 16 0).toArray] : List Value).toArray w R :=
 calls_of_exec2' (loops := []) (tails := [(1, 7)]) (joins := []) (boxes := []) (rngs := []) (c := Tryz.f75.body.getD .skip) pur1_ok Tryz.func75 (by kernel_rfl) (by kernel_rfl) h
def VC_mods (b : Nat) (s : ByteArray) (w : World) (R : Ending -> World -> Prop) : Prop := ∃ (x : Option Nat), w.cell? (Addr.mk b (0 + 3) none) = some (.map x) /\ ∃ (p : Option Addr) (n : Nat) (c : Nat), LookP Tryz.prog 95 (.map x) (.string s) false (.slice p n c) w /\ CallsS Tryz.prog 47 #[.slice p n c] w fun (e : Ending) (w' : World) => ∃ (p : Option Addr) (n : Nat) (c : Nat), e = .returned (.slice p n c) /\ KeptL [] w w' /\ R (.returned (.slice p n c)) w'
theorem vc_mods (b : Nat) (s : ByteArray) (w : World) (R : Ending -> World -> Prop) (h : VC_mods b s w R) : Calls Tryz.prog 16 ([Value.pointer (some { block := b, off := 0 }), .string s] : List Value).toArray w R :=
 calls_of_exec2' (loops := []) (tails := []) (joins := []) (boxes := []) (rngs := []) (c := Tryz.f16.body.getD .skip) pur1_ok Tryz.func16 (by kernel_rfl) (by kernel_rfl) h
def VC_submit (b : Nat) (i : Nat -> Int) (s : ByteArray) (t : ByteArray) (now : Int) (w : World) (R : Ending -> World -> Prop) : Prop := ∀ (n : Nat) (W : World), Loc w.heap.size [Blk.mk n 32 (arrI .u8 i 32 0) 2] w W -> CallsS Tryz.prog 48 #[.pointer (some (Addr.mk b 0 none)), .int .i64 now] W fun (e : Ending) (w' : World) => ∃ (x : Int), e = .returned (.int .i64 x) /\ KeptL [n] W w' /\ bsp (x != 0) (R (.returned (.int .i64 x)) w') (CallsS Tryz.prog 49 #[.string s] w' fun (e : Ending) (w'_1 : World) => ∃ (x : Int), e = .returned (.int .i64 x) /\ KeptL [n] w' w'_1 /\ bsp (x != 0) (R (.returned (.int .i64 x)) w'_1) (∀ (n_1 : Nat) (W : World), Loc w.heap.size [Blk.mk n_1 103 (arrI .u8 i 32 0 ++ [Value.string s]) (wrM 2), Blk.mk n 32 (arrI .u8 i 32 0) 0] w'_1 W -> ∃ (S : World -> Prop), S W /\ ∃ (x : Option Nat), (∀ (w' : World), S w' -> w'.cell? (Addr.mk b (0 + 4) none) = some (.map x)) /\
 ∃ (f : Nat -> Int) (x_1 : ByteArray), (∀ (w' : World), S w' -> AtL w' n_1 0 (arrI .u8 f 32 0 ++ [Value.string x_1])) /\ ∃ (f_1 : Nat -> Int) (x_2 : ByteArray), ∃ (x_3 : ByteArray) (x_4 : Int), ∃ (x_5 : Int) (f_2 : Nat -> Int), ∃ (x_6 : Int) (x_7 : ByteArray), ∃ (x_8 : Bool) (f_3 : Nat -> Int), ∃ (x_9 : Int) (b_1 : Bool), (∀ (w' : World), S w' -> LookP Tryz.prog 96 (.map x) (.agg (arrI .u8 f 32 0 ++ [Value.string x_1]).toArray) true (.tuple #[.agg (arrI .u8 f_1 32 0 ++ ([Value.string x_2, .string x_3, .int .i64 x_4, .int .i64 x_5] ++ arrI .u8 f_2 16 0 ++ ([Value.int .i64 x_6, .string x_7, .bool x_8] ++ arrI .u8 f_3 16 0 ++ [Value.int .i64 x_9]))).toArray, .bool b_1]) w') /\ ∀ (n_2 : Nat) (w1 : World), NewB W (Obj.cells #[.int .u8 0, .int .u8 0, .int .u8 0, .int .u8 0, .int .u8 0, .int .u8 0, .int .u8 0, .int .u8 0, .int .u8 0, .int .u8 0, .int .u8 0, .int .u8 0,
 .int .u8 0, .int .u8 0, .int .u8 0, .int .u8 0, .int .u8 0, .int .u8 0, .int .u8 0, .int .u8 0, .int .u8 0, .int .u8 0, .int .u8 0, .int .u8 0, .int .u8 0, .int .u8 0, .int .u8 0, .int .u8 0, .int .u8 0, .int .u8 0, .int .u8 0, .int .u8 0, .string (ByteArray.mk #[]), .string (ByteArray.mk #[]), .int .i64 0, .int .i64 0, .int .u8 0, .int .u8 0, .int .u8 0, .int .u8 0, .int .u8 0, .int .u8 0, .int .u8 0, .int .u8 0, .int .u8 0, .int .u8 0, .int .u8 0, .int .u8 0, .int .u8 0, .int .u8 0, .int .u8 0, .int .u8 0, .int .i64 0, .string (ByteArray.mk #[]), .bool false, .int .u8 0, .int .u8 0, .int .u8 0, .int .u8 0, .int .u8 0, .int .u8 0, .int .u8 0, .int .u8 0, .int .u8 0, .int .u8 0, .int .u8 0, .int .u8 0, .int .u8 0, .int .u8 0, .int .u8 0, .int .u8 0, .int .i64 0] 107) n_2 w1 -> S w1 /\ WrL w1 n_2 0 72 /\ ∀ (w1_1 : World), PutB w1 n_2 0
 (arrI .u8 f_1 32 0 ++ ([Value.string x_2, .string x_3, .int .i64 x_4, .int .i64 x_5] ++ arrI .u8 f_2 16 0 ++ ([Value.int .i64 x_6, .string x_7, .bool x_8] ++ arrI .u8 f_3 16 0 ++ [Value.int .i64 x_9]))) w1_1 -> KeptL [n_1, n] W w1_1 /\ bsp (decide ((↑t.size : Int) > 65536)) (R (.returned (.int .i64 5)) w1_1) (∃ (x : Option Nat), w1_1.cell? (Addr.mk b (0 + 3) none) = some (.map x) /\ ∃ (p : Option Addr) (n_3 : Nat) (c : Nat), LookP Tryz.prog 95 (.map x) (.string s) false (.slice p n_3 c) w1_1 /\ bsp ((↑n_3 : Int) == 0) (R (.returned (.int .i64 33)) w1_1) (bsp b_1 (R (.returned (.int .i64 7)) w1_1) (∃ (x : Int), (∀ (W : World), Loc w.heap.size [Blk.mk n_1 103 (arrI .u8 i 32 0 ++ [Value.string s]) 0, Blk.mk n 32 (arrI .u8 i 32 0) 0] w1_1 W -> W.cell? (Addr.mk b (0 + 2) none) = some (.int .i64 x)) /\ ∃ (x_10 : Int), (∀ (W : World), Loc w.heap.size [Blk.mk n_1 103
 (arrI .u8 i 32 0 ++ [Value.string s]) 0, Blk.mk n 32 (arrI .u8 i 32 0) 0] w1_1 W -> W.cell? (Addr.mk b 0 none) = some (.int .i64 x_10)) /\ bsp (decide (x ≥ x_10)) (∀ (W : World), Loc w.heap.size [Blk.mk n_1 103 (arrI .u8 i 32 0 ++ [Value.string s]) 0, Blk.mk n 32 (arrI .u8 i 32 0) 0] w1_1 W -> R (.returned (.int .i64 9)) W) (∃ (x : Option Nat), (∀ (W : World), Loc w.heap.size [Blk.mk n_1 103 (arrI .u8 i 32 0 ++ [Value.string s]) 0, Blk.mk n 32 (arrI .u8 i 32 0) 0] w1_1 W -> W.cell? (Addr.mk b (0 + 4) none) = some (.map x)) /\ ∀ (W : World), Loc w.heap.size [Blk.mk n_1 103 (arrI .u8 i 32 0 ++ [Value.string s]) 0, Blk.mk n 32 (arrI .u8 i 32 0) 0] w1_1 W -> ∃ (w1 : World), UpdP Tryz.prog 96 (.map x) (.agg (arrI .u8 i 32 0 ++ [Value.string s]).toArray) (.agg (arrI .u8 i 32 0 ++ [Value.string s, .string t, .int .i64 now, .int .i64 0, .int .u8 0, .int .u8 0, .int .u8 0,
 .int .u8 0, .int .u8 0, .int .u8 0, .int .u8 0, .int .u8 0, .int .u8 0, .int .u8 0, .int .u8 0, .int .u8 0, .int .u8 0, .int .u8 0, .int .u8 0, .int .u8 0, .int .i64 0, .string (ByteArray.mk #[]), .bool false, .int .u8 0, .int .u8 0, .int .u8 0, .int .u8 0, .int .u8 0, .int .u8 0, .int .u8 0, .int .u8 0, .int .u8 0, .int .u8 0, .int .u8 0, .int .u8 0, .int .u8 0, .int .u8 0, .int .u8 0, .int .u8 0, .int .i64 0]).toArray) W w1 /\ KeptL [n_1, n] W w1 /\ ∃ (x : Int), w1.cell? (Addr.mk b (0 + 2) none) = some (.int .i64 x) /\ ((∃ (u : Value), w1.cell? (Addr.mk b (0 + 2) none) = some u) /\ w1.frozen? (Addr.mk b (0 + 2) none) = false) /\ ∀ (w1_2 : World), PutB w1 b (0 + 2) [Value.int .i64 (IntKind.i64.wrap (x + 1))] w1_2 -> KeptL [n_1, n] w1 w1_2 /\ R (.returned (.int .i64 0)) w1_2))))))
theorem vc_submit (b : Nat) (i : Nat -> Int) (s : ByteArray) (t : ByteArray) (now : Int) (w : World) (R : Ending -> World -> Prop) (h : VC_submit b i s t now w R) : Calls Tryz.prog 18 ([Value.pointer (some { block := b, off := 0 }), .agg (arrI .u8 i 32 0).toArray, .string s, .string t, .int .i64 now] : List Value).toArray w R :=
 calls_of_exec2' (loops := []) (tails := [(8, 9), (17, 11)]) (joins := []) (boxes := []) (rngs := []) (c := Tryz.f18.body.getD .skip) pur1_ok Tryz.func18 (by kernel_rfl) (by kernel_rfl) h
def VC_selected (b : Nat) (f : FuncId) (fa : Array Value) (fb : Array Value) (w : World) (R : Ending -> World -> Prop) : Prop := ∃ (x : Option Nat), w.cell? (Addr.mk b (0 + 4) none) = some (.map x) /\ ∃ (n : Nat) (w1 : World), RngP Tryz.prog 96 (.map x) n w w1 /\ KeptL [] w w1 /\ ∃ (I : List Value -> World -> Prop) (m : List Value -> World -> Nat), I [Value.slice none 0 0] w1 /\ ∀ (p : Option Addr) (n_1 c : Nat) (w' : World), I [Value.slice p n_1 c] w' -> ∃ (b : Bool) (r : List Value) (w1 : World), NxtP Tryz.prog (.pointer (some (Addr.mk n 0 none))) b r w' w1 /\ KeptL [] w' w1 /\ bsp b (∃ (f_1 : Nat -> Int) (x : ByteArray), ∃ (f_2 : Nat -> Int) (x_1 : ByteArray), ∃ (x_2 : ByteArray) (x_3 : Int), ∃ (x_4 : Int) (f_3 : Nat -> Int), ∃ (x_5 : Int) (x_6 : ByteArray), ∃ (x_7 : Bool) (f_4 : Nat -> Int) (x_8 : Int),
 EntP Tryz.prog (.pointer (some (Addr.mk n 0 none))) (.tuple #[.agg (arrI .u8 f_1 32 0 ++ [Value.string x]).toArray, .agg (arrI .u8 f_2 32 0 ++ ([Value.string x_1, .string x_2, .int .i64 x_3, .int .i64 x_4] ++ arrI .u8 f_3 16 0 ++ ([Value.int .i64 x_5, .string x_6, .bool x_7] ++ arrI .u8 f_4 16 0 ++ [Value.int .i64 x_8]))).toArray]) w1 /\ ∀ (n : Nat) (W : World), Loc w.heap.size [Blk.mk n 107 (arrI .u8 f_2 32 0 ++ ([Value.string x_1, .string x_2, .int .i64 x_3, .int .i64 x_4] ++ arrI .u8 f_3 16 0 ++ ([Value.int .i64 x_5, .string x_6, .bool x_7] ++ arrI .u8 f_4 16 0 ++ [Value.int .i64 x_8]))) (wrM 2)] w1 W -> ∃ (f_5 : Nat) (a : Array Value) (b : Array Value), Value.func (Fn.func f) fa fb = Value.func (Fn.func f_5) a b /\ okFn Tryz.prog f_5 = true /\ CallsS Tryz.prog f_5 (appA a [Value.agg (arrI .u8 f_2 32 0 ++ ([Value.string x_1, .string x_2, .int .i64 x_3,
 .int .i64 x_4] ++ arrI .u8 f_3 16 0 ++ ([Value.int .i64 x_5, .string x_6, .bool x_7] ++ arrI .u8 f_4 16 0 ++ [Value.int .i64 x_8]))).toArray] b) W fun (e : Ending) (w'_1 : World) => ∃ (x : Bool), e = .returned (.bool x) /\ KeptL [n] W w'_1 /\ bsp x (∀ (n_2 : Nat) (W : World), Loc w.heap.size [Blk.mk n_2 48 (arrI .u8 f_2 32 0 ++ ([Value.string x_1, .string x_2, .int .i64 x_3, .int .i64 x_4] ++ arrI .u8 f_3 16 0 ++ [Value.int .i64 x_5, .string x_6])) 2, Blk.mk n 107 (arrI .u8 f_2 32 0 ++ ([Value.string x_1, .string x_2, .int .i64 x_3, .int .i64 x_4] ++ arrI .u8 f_3 16 0 ++ ([Value.int .i64 x_5, .string x_6, .bool x_7] ++ arrI .u8 f_4 16 0 ++ [Value.int .i64 x_8]))) 0] w'_1 W -> ∃ (base : Nat) (xs : List Value), W.ownsRow base 48 54 (.slice p n_1 c) n_1 xs /\ n_1 + 1 <= 9223372036854775807 /\ (n_1 + 1) * 120 <= 140737488355328 /\ base <= W.heap.size /\
 ∀ (p' : Option Addr) (c' : Nat) (w'_2 : World), w'_2.ownsRow base 48 54 (.slice p' (n_1 + 1) c') (n_1 + 1) (xs ++ (arrI .u8 f_2 32 0 ++ ([Value.string x_1, .string x_2, .int .i64 x_3, .int .i64 x_4] ++ arrI .u8 f_3 16 0 ++ [Value.int .i64 x_5, .string x_6]))) -> W.grownBy w'_2 (Value.slice p n_1 c).ownBlock -> AppL W p n_1 c 1 p' c' -> KeptL [n] W w'_2 /\ I [Value.slice p' (n_1 + 1) c'] w'_2 /\ m [Value.slice p' (n_1 + 1) c'] w'_2 < m [Value.slice p n_1 c] w') (I [Value.slice p n_1 c] w'_1 /\ m [Value.slice p n_1 c] w'_1 < m [Value.slice p n_1 c] w')) (R (.returned (.slice p n_1 c)) w1)
theorem vc_selected (b : Nat) (f : FuncId) (fa : Array Value) (fb : Array Value) (w : World) (R : Ending -> World -> Prop) (h : VC_selected b f fa fb w R) : Calls Tryz.prog 65 ([Value.pointer (some { block := b, off := 0 }), Value.func (Fn.func f) fa fb] : List Value).toArray w R :=
 calls_of_exec2' (loops := [(5, [(5, Ck.slice)])]) (tails := []) (joins := []) (boxes := []) (rngs := [(14, 96)]) (c := Tryz.f65.body.getD .skip) pur1_ok Tryz.func65 (by kernel_rfl) (by kernel_rfl) h
end Go.Proofs.YtfacflbmlfbeeaaGreatDoor
namespace Go.Proofs.YtfacflbmlfbeeaaGreatDoor
open Go.RowKit Go.Sort Go.Maps
def NU (w : World) (k : Nat) : Prop := ∀ o i, ¬ w.cell? ⟨k, o, none⟩ = some (.int .u8 i)
theorem RowA.kpU {α : Type} {f : α -> List Value} {L : Nat} {w w' : World} {p : Option Addr} {l : List α} {M : Nat -> Prop} (h : RowA f L w p l) (hf : ∀ y, ∃ i, (f y)[0]? = some (.int .u8 i)) (hk : Kp M w w') (hm : ∀ k, M k -> NU w k) : RowA f L w' p l := fun k y hy => by
 obtain ⟨b, o, h1, h2⟩ := h k y hy
 refine ⟨b, o, h1, ⟨At_of _ _ fun j u hu => hk.cell' (h2.cell hu) (fun e => ?_)⟩⟩
 obtain ⟨i, hi⟩ := hf y
 exact hm b e _ _ (h2.cell hi)
theorem auC_u (y : Nat -> Int) : ∃ i, (auC y)[0]? = some (.int .u8 i) := ⟨y 0, rfl⟩
theorem sbC_u (y : Sb) : ∃ i, (sbC y)[0]? = some (.int .u8 i) := ⟨y.id 0, rfl⟩
theorem nu_map {w : World} {k : Nat} {es : Array MapEntry} {c : Nat} (h : w.heap[k]? = some (.map es c)) : NU w k := fun o i hc => by
 unfold World.cell? at hc
 simp only [h] at hc
 cases hc
theorem cell_ne_map39 {w : World} {g o mb : Nat} {v : Value} {es : Array MapEntry} {c : Nat} (h : w.cell? ⟨g, o, none⟩ = some v) (hm : w.heap[mb]? = some (.map es c)) : g ≠ mb := fun e => by
 subst e
 unfold World.cell? at h
 simp only [hm] at h
 cases h
def QB (b mb eb : Nat) (k : Nat) : Prop := k = b \/ k = mb \/ k = eb
section
variable {w w' : World} {b mb eb : Nat} {q : Qu}
theorem Mq.k0 (h : Mq w b mb eb q) (hk : K0 w w') : Mq w' b mb eb q :=
 ⟨hk.blk h.st (fun h => h), h.mm.kp hk (fun h => h), h.me.kp hk (fun h => h), fun g x hx => (h.row g x hx).k0 hk, h.ne, h.nz⟩
theorem Mq.bm (h : Mq w b mb eb q) : b ≠ mb := fun e => by
 obtain ⟨es, c, hb, _⟩ := h.mm.blk
 have := h.st
 rw [e, hb] at this; cases this
theorem Mq.be (h : Mq w b mb eb q) : b ≠ eb := fun e => by
 obtain ⟨es, c, hb, _⟩ := h.me.blk
 have := h.st
 rw [e, hb] at this; cases this
theorem Mq.nu (h : Mq w b mb eb q) : ∀ k, QB b mb eb k -> NU w k := fun k hk => by
 rcases hk with rfl | rfl | rfl
 ·intro o i hc
  unfold World.cell? at hc
  simp only [h.st] at hc
  rcases o with _ | _ | _ | _ | _ | o <;> simp at hc
 ·obtain ⟨es, c, hb, _⟩ := h.mm.blk; exact nu_map hb
 ·obtain ⟨es, c, hb, _⟩ := h.me.blk; exact nu_map hb
theorem Mq.gw (h : Mq w b mb eb q) (hk : Kp (QB b mb eb) w w') (hG : GW w) : GW w' := hG.kp hk (fun e => by
 rcases e with e | e | e
 ·exact h.nz e.symm
 ·obtain ⟨es, c, hb, _⟩ := h.mm.blk
  obtain ⟨m, hm⟩ := hG
  exact cell_ne_map39 hm hb e
 ·obtain ⟨es, c, hb, _⟩ := h.me.blk
  obtain ⟨m, hm⟩ := hG
  exact cell_ne_map39 hm hb e)
theorem Mq.cR (h : Mq w b mb eb q) : w.cell? ⟨b, 0, none⟩ = some (.int .i64 q.room) := cell_at h.st rfl
theorem Mq.cD (h : Mq w b mb eb q) : w.cell? ⟨b, 0 + 1, none⟩ = some (.int .i64 q.days) := cell_at h.st rfl
theorem Mq.cW (h : Mq w b mb eb q) : w.cell? ⟨b, 0 + 2, none⟩ = some (.int .i64 q.wt) := cell_at h.st rfl
theorem Mq.cM (h : Mq w b mb eb q) : w.cell? ⟨b, 0 + 3, none⟩ = some (.map (some mb)) := cell_at h.st rfl
theorem Mq.cE (h : Mq w b mb eb q) : w.cell? ⟨b, 0 + 4, none⟩ = some (.map (some eb)) := cell_at h.st rfl
def Qu.md (q : Qu) (g : ByteArray) : MX := (aget q.ms g).getD mxz
def Qu.en (q : Qu) (k : Ky) : En := (aget q.es k).getD enz
theorem zeroMs (w : World) : (zeroValue 28).run Tryz.prog w = .ok (mxV mxz) w := by kernel_rfl
theorem zeroEn (w : World) : (zeroValue 107).run Tryz.prog w = .ok (enV enz) w := by kernel_rfl
theorem Mq.lookM (h : Mq w b mb eb q) {g : ByteArray} (hg : g.size <= 1073741824) : LookP Tryz.prog 95 (.map (some mb)) (.string g) false (mxV (q.md g)) w := by
 obtain ⟨kl, hkl⟩ := stKey hg
 have := MapB.look stInj h.mm stKeyed Tryz.underlying95 (zeroMs w) hkl false
 rw [aget_amap] at this
 unfold Qu.md
 cases hgt : aget q.ms g with
 | none => rw [hgt] at this; exact this
 | some x => rw [hgt] at this; exact this
theorem Mq.rowM (h : Mq w b mb eb q) (g : ByteArray) : RowA auC 16 w (q.md g).p (q.md g).l := by
 unfold Qu.md
 cases hgt : aget q.ms g with
 | none => exact RowA.nil
 | some x => exact h.row g x hgt
theorem Mq.lookE (h : Mq w b mb eb q) {f : Nat -> Int} (hf : BY f) {g : ByteArray} (hg : g.size <= 1073741824) : LookP Tryz.prog 96 (.map (some eb)) (.agg (arrI .u8 f 32 0 ++ ([.string g] : List Value)).toArray) true (.tuple #[enV (q.en (idI f, g)), .bool (aget q.es (idI f, g)).isSome]) w := by
 obtain ⟨kl, hkl⟩ := kyKey (k := (idI f, g)) (idI_len f) (idI_bd hf) hg
 have := MapB.look kyV_inj h.me kyKeyed Tryz.underlying96 (zeroEn w) hkl true
 rw [aget_amap] at this
 unfold Qu.en
 cases hgt : aget q.es (idI f, g) with
 | none => rw [hgt] at this; exact this
 | some x => rw [hgt] at this; exact this
theorem Mq.look1 (h : Mq w b mb eb q) {f : Nat -> Int} (hf : BY f) {g : ByteArray} (hg : g.size <= 1073741824) : LookP Tryz.prog 96 (.map (some eb)) (.agg (arrI .u8 f 32 0 ++ ([.string g] : List Value)).toArray) false (enV (q.en (idI f, g))) w := by
 obtain ⟨kl, hkl⟩ := kyKey (k := (idI f, g)) (idI_len f) (idI_bd hf) hg
 have := MapB.look kyV_inj h.me kyKeyed Tryz.underlying96 (zeroEn w) hkl false
 rw [aget_amap] at this
 unfold Qu.en
 cases hgt : aget q.es (idI f, g) with
 | none => rw [hgt] at this; exact this
 | some x => rw [hgt] at this; exact this
theorem Mq.updE (h : Mq w b mb eb q) (x : En) {f : Nat -> Int} (hf : BY f) {g : ByteArray} (hg : g.size <= 1073741824) :
  ∃ w1, UpdP Tryz.prog 96 (.map (some eb)) (.agg (arrI .u8 f 32 0 ++ ([.string g] : List Value)).toArray) (enV x) w w1 /\ Mq w1 b mb eb { q with es := aset q.es (idI f, g) x } /\ Kp (· = eb) w w1 := by
 obtain ⟨kl, hkl⟩ := kyKey (k := (idI f, g)) (idI_len f) (idI_bd hf) hg
 obtain ⟨w1, hu, hm, hk⟩ := MapB.upd kyV_inj h.me kyKeyed Tryz.underlying96 hkl (enV x)
 rw [aset_amap] at hm
 exact ⟨w1, hu, ⟨hk.blk h.st h.be, h.mm.kp hk h.ne, hm, fun g x hx => (h.row g x hx).kpU auC_u hk (fun k e => h.nu k (.inr (.inr e))), h.ne, h.nz⟩, hk⟩
theorem Mq.delE (h : Mq w b mb eb q) {f : Nat -> Int} (hf : BY f) {g : ByteArray} (hg : g.size <= 1073741824) :
  ∃ w1, BltP Tryz.prog .delete [96, 103] [.map (some eb), .agg (arrI .u8 f 32 0 ++ ([.string g] : List Value)).toArray] w w1 /\ Mq w1 b mb eb { q with es := adel q.es (idI f, g) } /\ Kp (· = eb) w w1 := by
 obtain ⟨kl, hkl⟩ := kyKey (k := (idI f, g)) (idI_len f) (idI_bd hf) hg
 obtain ⟨w1, hu, hm, hk⟩ := MapB.del kyV_inj h.me kyKeyed Tryz.underlying96 hkl
 have e : adel (amap enV q.es) (idI f, g) = amap enV (adel q.es (idI f, g)) := by unfold adel amap; rw [List.filter_map]; rfl
 rw [e] at hm
 exact ⟨w1, hu, ⟨hk.blk h.st h.be, h.mm.kp hk h.ne, hm, fun g x hx => (h.row g x hx).kpU auC_u hk (fun k e => h.nu k (.inr (.inr e))), h.ne, h.nz⟩, hk⟩
theorem Mq.updM (h : Mq w b mb eb q) (x : MX) (hx : RowA auC 16 w x.p x.l) {g : ByteArray} (hg : g.size <= 1073741824) :
  ∃ w1, UpdP Tryz.prog 95 (.map (some mb)) (.string g) (mxV x) w w1 /\ Mq w1 b mb eb { q with ms := aset q.ms g x } /\ Kp (· = mb) w w1 := by
 obtain ⟨kl, hkl⟩ := stKey hg
 obtain ⟨w1, hu, hm, hk⟩ := MapB.upd stInj h.mm stKeyed Tryz.underlying95 hkl (mxV x)
 rw [aset_amap] at hm
 have nu := fun k (e : k = mb) => h.nu k (.inr (.inl e))
 refine ⟨w1, hu, ⟨hk.blk h.st h.bm, hm, h.me.kp hk (fun e => h.ne e.symm), fun g' y hy => ?_, h.ne, h.nz⟩, hk⟩
 have hy : aget (aset q.ms g x) g' = some y := hy
 rw [aget_aset] at hy
 split at hy
 ·cases hy; exact hx.kpU auC_u hk nu
 ·exact (h.row g' y hy).kpU auC_u hk nu
theorem Mq.delM (h : Mq w b mb eb q) {g : ByteArray} (hg : g.size <= 1073741824) :
  ∃ w1, BltP Tryz.prog .delete [95, 9] [.map (some mb), .string g] w w1 /\ Mq w1 b mb eb { q with ms := adel q.ms g } /\ Kp (· = mb) w w1 := by
 obtain ⟨kl, hkl⟩ := stKey hg
 obtain ⟨w1, hu, hm, hk⟩ := MapB.del stInj h.mm stKeyed Tryz.underlying95 hkl
 have e : adel (amap mxV q.ms) g = amap mxV (adel q.ms g) := by unfold adel amap; rw [List.filter_map]; rfl
 rw [e] at hm
 have nu := fun k (e : k = mb) => h.nu k (.inr (.inl e))
 refine ⟨w1, hu, ⟨hk.blk h.st h.bm, hm, h.me.kp hk (fun e => h.ne e.symm), fun g' y hy => ?_, h.ne, h.nz⟩, hk⟩
 have hy : aget (adel q.ms g) g' = some y := hy
 rw [aget_adel] at hy
 split at hy
 ·cases hy
 ·exact (h.row g' y hy).kpU auC_u hk nu
theorem Mq.putW (h : Mq w b mb eb q) {v : Int} (hp : PutB w b (0 + 2) [.int .i64 v] w') : Mq w' b mb eb { q with wt := v } := by
 refine ⟨?_, h.mm.kp hp.kp (fun e => h.bm e.symm), h.me.kp hp.kp (fun e => h.be e.symm), fun g x hx => (h.row g x hx).kpU auC_u hp.kp (fun k e => h.nu k (.inl e)), h.ne, h.nz⟩
 rw [hp.block h.st]; rfl
theorem Mq.wrW (h : Mq w b mb eb q) : (∃ u : Value, w.cell? ⟨b, 0 + 2, none⟩ = some u) /\ w.frozen? ⟨b, 0 + 2, none⟩ = false := ⟨⟨_, h.cW⟩, frozen_block h.st _⟩
end
def minB (now : Int) : Bool := decide (0 <= now) && decide (now <= 105190559)
theorem isMin_any (now : Int) (w : World) : Calls Tryz.prog 86 #[.int .i64 now] w fun e w' => e = .returned (.bool (minB now)) /\ K0 w w' :=
 vc_isMin now w _ ⟨rfl, .refl _ _⟩
theorem begin_any (b : Nat) (now : Int) (w : World) : Calls Tryz.prog 48 #[.pointer (some ⟨b, 0, none⟩), .int .i64 now] w fun e w' => e = .returned (.int .i64 (if minB now = true then 0 else 2)) /\ K0 w w' := by
 refine vc_begin_ _ now w _ (bsp_intro (fun h => by cases h) (fun _ => ⟨(isMin_any now w).mono fun e w1 ⟨he, k1⟩ => ⟨_, he, .of_k0 k1, ?_⟩⟩))
 refine bsp_intro (fun h => ?_) (fun h => ?_)
 ·have h : minB now = false := by simpa using h
  rw [h]; exact ⟨rfl, k1⟩
 ·have h : minB now = true := by simpa using h
  rw [h]; exact ⟨rfl, k1⟩
def newR (room days : Int) : Bool := decide (room < 1) || decide (10000 < room) || decide (days < 1) || decide (365 < days)
theorem mnew_any (room days : Int) (w : World) (hw : 0 < w.heap.size) : Calls Tryz.prog 13 #[.int .i64 room, .int .i64 days] w fun e w' =>
  (newR room days = true /\ e = .returned (.tuple #[.pointer none, .int .i64 2]) /\ K0 w w') \/
  (newR room days = false /\ ∃ b mb eb, e = .returned (.tuple #[.pointer (some ⟨b, 0, none⟩), .int .i64 0]) /\ Mq w' b mb eb ⟨room, days, 0, [], []⟩ /\ K0 w w' /\ w.heap.size <= b /\ w.heap.size <= mb /\ w.heap.size <= eb) := by
 refine vc_mnew room days w _ (bsp_intro (fun h => .inl ⟨h, rfl, .refl _ _⟩) (fun h => fun mb w1 h1 => ⟨.of_k0 (h1.kp _), fun eb w2 h2 => ⟨.of_k0 (h2.kp _), fun b W hW => .inr ⟨h, b, mb, eb, rfl, ?_, ?_⟩⟩⟩))
 ·have k2 : K0 w2 W := hW.kk rfl
  have k1 : K0 w1 W := (h2.kp _).trans k2
  have gb := hW.fresh 0 rfl rfl
  have g1 := h1.ge
  have g2 := h2.ge
  have s1 := h1.size
  refine ⟨hW.cells 0 rfl, (NewB.map h1).kp k1 (fun h => h), (NewB.map h2).kp k2 (fun h => h), (fun g x hx => by cases hx), (fun e => by omega), fun e => ?_⟩
  have gb : w2.heap.size <= b := gb
  have := (h2.kp (fun _ => False)).size
  have e : b = 0 := e
  omega
 ·have gb : w2.heap.size <= b := hW.fresh 0 rfl rfl
  have := (h1.kp (fun _ => False)).size
  have := (h2.kp (fun _ => False)).size
  exact ⟨((h1.kp _).trans (h2.kp _)).trans (hW.kk rfl), by omega, h1.ge, by have := h2.ge; omega⟩
def isMB (x : MX) (a : Nat -> Int) : Bool := decide (auI a ∈ x.l.map auI)
theorem ismod_any {w : World} {b mb eb : Nat} {q : Qu} (h : Mq w b mb eb q) (ho : q.OK) (g : ByteArray) (hg : g.size <= 1073741824) (a : Nat -> Int) (ha : BY a) :
  Calls Tryz.prog 75 #[.pointer (some ⟨b, 0, none⟩), .string g, .agg (arrI .u8 a 16 0).toArray] w fun e w' => e = .returned (.bool (isMB (q.md g) a)) /\ K0 w w' := by
 refine vc_ismod b g a w _ (fun n => ⟨some mb, fun W hW => (h.k0 (hW.kk rfl)).cM, _, _, _, fun W hW => (h.k0 (hW.kk rfl)).lookM hg, fun W hW => ?_⟩)
 have kW : K0 w W := hW.kk rfl
 have hb : (∀ m ∈ (q.md g).l, BY m) /\ (q.md g).l.length <= 8 := by
  unfold Qu.md
  cases hgt : aget q.ms g with
  | none => exact ⟨(fun m hm => by cases hm), by decide⟩
  | some x => exact ⟨fun m hm => ((ho.ms g x hgt).2.1.by_ m hm).1, (ho.ms g x hgt).2.1.len⟩
 exact ⟨(acont_any (q.md g).l (q.md g).p (q.md g).c a W ((h.k0 kW).rowM g) hb.1 ha (by omega)).mono fun e w2 ⟨he, k2⟩ => ⟨_, he, .of_k0 k2, rfl, kW.trans k2⟩⟩
theorem inEff_any (x : En) (now : Int) (hs : 0 <= x.si /\ x.si <= 105190559) (hn : 0 <= now /\ now <= 105190559) (w : World) :
  Calls Tryz.prog 81 #[.agg (([.bool x.le] : List Value) ++ (arrI .u8 x.ho 16 0 ++ ([.int .i64 x.si] : List Value))).toArray, .int .i64 now] w fun e w' => e = .returned (.bool (inE x now)) /\ K0 w w' := by
 refine vc_inEff x.le x.ho x.si now w _ (fun n => ⟨x.si, gimp_intro fun _ W hW => cell_at (hW.cells 0 rfl) rfl, x.si, gimp_intro fun _ W hW => cell_at (hW.cells 0 rfl) rfl, fun W hW => ⟨?_, hW.kk rfl⟩⟩)
 unfold inE
 rw [wr64 (by omega) (by omega), Bool.and_assoc]
theorem blocked_any (x : En) (a : Nat -> Int) (now : Int) (hx : x.OK) (ha : BY a) (hn : 0 <= now /\ now <= 105190559) (w : World) :
  Calls Tryz.prog 77 #[enV x, .agg (arrI .u8 a 16 0).toArray, .int .i64 now] w fun e w' => e = .returned (.bool (blk x (auI a) now)) /\ K0 w w' := by
 refine vc_blocked x.s.id x.s.mo x.s.g x.s.tx x.s.r x.s.st x.s.de x.s.rs x.le x.ho x.si a now w _ (fun n n1 W hW => ?_)
 have kW : K0 w W := hW.kk rfl
 refine ⟨(inEff_any x now hx.si hn W).mono fun e w1 ⟨he, k1⟩ => ⟨_, he, .of_k0 k1, x.ho, gimp_intro fun _ => AtL_block (k1.blk (hW.cells 1 rfl) (fun h => h)) rfl, _, gimp_intro fun _ => auEq hx.ho ha, ?_, kW.trans k1⟩⟩
 rfl
end Go.Proofs.YtfacflbmlfbeeaaGreatDoor
namespace Go.Proofs.YtfacflbmlfbeeaaGreatDoor
set_option maxRecDepth 100000
set_option linter.unusedVariables false
def VC_list_ (b : Nat) (s : ByteArray) (st : Int) (w : World) (R : Ending -> World -> Prop) : Prop := ∀ (n n_1 : Nat) (W : World), Loc w.heap.size [Blk.mk n_1 3 [Value.int .i64 st] 2, Blk.mk n 9 [Value.string s] 2] w W -> CallsS Tryz.prog 65 #[.pointer (some (Addr.mk b 0 none)), Value.func (Fn.func 66) #[] #[.pointer (some (Addr.mk n 0 none)), .pointer (some (Addr.mk n_1 0 none))]] W fun (e : Ending) (w' : World) => ∃ (p : Option Addr) (n : Nat) (c : Nat), e = .returned (.slice p n c) /\ KeptL [] W w' /\ CallsS Tryz.prog 67 #[.slice p n c, Value.func (Fn.func 68) #[] #[]] w' fun (e : Ending) (w'_1 : World) => e = .returned (.tuple #[]) /\ KeptL [] w' w'_1 /\ R (.returned (.slice p n c)) w'_1
theorem vc_list_ (b : Nat) (s : ByteArray) (st : Int) (w : World) (R : Ending -> World -> Prop) (h : VC_list_ b s st w R) : Calls Tryz.prog 32 ([Value.pointer (some { block := b, off := 0 }), .string s, .int .i64 st] : List Value).toArray w R :=
 calls_of_exec2' (loops := []) (tails := []) (joins := []) (boxes := []) (rngs := []) (c := Tryz.f32.body.getD .skip) pur1_ok Tryz.func32 (by kernel_rfl) (by kernel_rfl) h
def VC_count_ (b : Nat) (s : ByteArray) (st : Int) (w : World) (R : Ending -> World -> Prop) : Prop := CallsS Tryz.prog 32 #[.pointer (some (Addr.mk b 0 none)), .string s, .int .i64 st] w fun (e : Ending) (w' : World) => ∃ (p : Option Addr) (n : Nat) (c : Nat), e = .returned (.slice p n c) /\ KeptL [] w w' /\ R (.returned (.int .i64 (↑n : Int))) w'
theorem vc_count_ (b : Nat) (s : ByteArray) (st : Int) (w : World) (R : Ending -> World -> Prop) (h : VC_count_ b s st w R) : Calls Tryz.prog 15 ([Value.pointer (some { block := b, off := 0 }), .string s, .int .i64 st] : List Value).toArray w R :=
 calls_of_exec2' (loops := []) (tails := []) (joins := []) (boxes := []) (rngs := []) (c := Tryz.f15.body.getD .skip) pur1_ok Tryz.func15 (by kernel_rfl) (by kernel_rfl) h
def VC_setMods (b : Nat) (s : ByteArray) (p : Option Addr) (n : Nat) (c : Nat) (w : World) (R : Ending -> World -> Prop) : Prop := CallsS Tryz.prog 49 #[.string s] w fun (e : Ending) (w' : World) => ∃ (x : Int), e = .returned (.int .i64 x) /\ KeptL [] w w' /\ bsp (x != 0) (R (.returned (.int .i64 x)) w') (bsp (decide ((↑n : Int) > 8)) (R (.returned (.int .i64 9)) w') (CallsS Tryz.prog 72 #[.slice p n c] w' fun (e : Ending) (w'_1 : World) => ∃ (x : Value), e = .returned x /\ KeptL [] w' w'_1 /\ CallsS Tryz.prog 71 #[x, Value.func (Fn.func 73) #[] #[]] w'_1 fun (e : Ending) (w' : World) => ∃ (p : Option Addr) (n_1 : Nat) (c : Nat), e = .returned (.slice p n_1 c) /\ KeptL [] w'_1 w' /\ CallsS Tryz.prog 47 #[.slice p n_1 c] w' fun (e : Ending) (w'_2 : World) => ∃ (p_1 : Option Addr) (n_2 : Nat) (c_1 : Nat), e = .returned (.slice p_1 n_2 c_1) /\ KeptL [] w' w'_2 /\
 CallsS Tryz.prog 74 #[.slice p_1 n_2 c_1] w'_2 fun (e : Ending) (w' : World) => ∃ (p_2 : Option Addr) (n_3 : Nat) (c_2 : Nat), e = .returned (.slice p_2 n_3 c_2) /\ KeptL [] w'_2 w' /\ bsp (decide ((↑n_3 : Int) < (↑n : Int))) (R (.returned (.int .i64 7)) w') (bsp ((↑n_1 : Int) == 0) (∃ (x : Option Nat), w'.cell? (Addr.mk b (0 + 3) none) = some (.map x) /\ ∃ (w1 : World), BltP Tryz.prog Builtin.delete [95, 9] [Value.map x, .string s] w' w1 /\ KeptL [] w' w1 /\ R (.returned (.int .i64 0)) w1) (∃ (x : Option Nat), w'.cell? (Addr.mk b (0 + 3) none) = some (.map x) /\ bsp x.isNone (∀ (n : Nat) (w1 : World), NewB w' (Obj.map #[] 0) n w1 -> KeptL [] w' w1 /\ ((∃ (u : Value), w1.cell? (Addr.mk b (0 + 3) none) = some u) /\ w1.frozen? (Addr.mk b (0 + 3) none) = false) /\ ∀ (w1_1 : World), PutB w1 b (0 + 3) [Value.map (some n)] w1_1 -> KeptL [] w1 w1_1 /\ ∃ (x : Option Nat),
 w1_1.cell? (Addr.mk b (0 + 3) none) = some (.map x) /\ ∃ (w1 : World), UpdP Tryz.prog 95 (.map x) (.string s) (.slice p n_1 c) w1_1 w1 /\ KeptL [] w1_1 w1 /\ R (.returned (.int .i64 0)) w1) (∃ (x : Option Nat), w'.cell? (Addr.mk b (0 + 3) none) = some (.map x) /\ ∃ (w1 : World), UpdP Tryz.prog 95 (.map x) (.string s) (.slice p n_1 c) w' w1 /\ KeptL [] w' w1 /\ R (.returned (.int .i64 0)) w1)))))
theorem vc_setMods (b : Nat) (s : ByteArray) (p : Option Addr) (n : Nat) (c : Nat) (w : World) (R : Ending -> World -> Prop) (h : VC_setMods b s p n c w R) : Calls Tryz.prog 38 ([Value.pointer (some { block := b, off := 0 }), .string s, .slice p n c] : List Value).toArray w R :=
 calls_of_exec2' (loops := []) (tails := []) (joins := []) (boxes := []) (rngs := []) (c := Tryz.f38.body.getD .skip) pur1_ok Tryz.func38 (by kernel_rfl) (by kernel_rfl) h
end Go.Proofs.YtfacflbmlfbeeaaGreatDoor
namespace Go.Proofs.YtfacflbmlfbeeaaGreatDoor
set_option maxRecDepth 100000
set_option linter.unusedVariables false
def VC_lisC (id : Nat -> Int) (mo : Nat -> Int) (g : ByteArray) (t : ByteArray) (r : Int) (st : Int) (de : Int) (rs : ByteArray) (le : Bool) (ho : Nat -> Int) (si : Int) (b1 : Nat) (b2 : Nat) (w : World) (R : Ending -> World -> Prop) : Prop := ∀ (n : Nat), ∃ (x : ByteArray), (∀ (W : World), Loc w.heap.size [Blk.mk n 107 (arrI .u8 id 32 0 ++ ([Value.string g, .string t, .int .i64 r, .int .i64 st] ++ arrI .u8 mo 16 0 ++ ([Value.int .i64 de, .string rs, .bool le] ++ arrI .u8 ho 16 0 ++ [Value.int .i64 si]))) 2] w W -> W.cell? (Addr.mk b1 0 none) = some (.string x)) /\ ∃ (x_1 : ByteArray), gimp (!x.toList == []) (∀ (W : World), Loc w.heap.size [Blk.mk n 107 (arrI .u8 id 32 0 ++ ([Value.string g, .string t, .int .i64 r, .int .i64 st] ++ arrI .u8 mo 16 0 ++ ([Value.int .i64 de, .string rs, .bool le] ++ arrI .u8 ho 16 0 ++ [Value.int .i64 si]))) 2] w W ->
 W.cell? (Addr.mk n (0 + 32) none) = some (.string x_1)) /\ ∃ (x_2 : ByteArray), gimp (!x.toList == []) (∀ (W : World), Loc w.heap.size [Blk.mk n 107 (arrI .u8 id 32 0 ++ ([Value.string g, .string t, .int .i64 r, .int .i64 st] ++ arrI .u8 mo 16 0 ++ ([Value.int .i64 de, .string rs, .bool le] ++ arrI .u8 ho 16 0 ++ [Value.int .i64 si]))) 2] w W -> W.cell? (Addr.mk b1 0 none) = some (.string x_2)) /\ ∃ (x_3 : Int), gimp (x.toList == [] || x_1.toList == x_2.toList) (∀ (W : World), Loc w.heap.size [Blk.mk n 107 (arrI .u8 id 32 0 ++ ([Value.string g, .string t, .int .i64 r, .int .i64 st] ++ arrI .u8 mo 16 0 ++ ([Value.int .i64 de, .string rs, .bool le] ++ arrI .u8 ho 16 0 ++ [Value.int .i64 si]))) 2] w W -> W.cell? (Addr.mk n (0 + 35) none) = some (.int .i64 x_3)) /\ ∃ (x_4 : Int), gimp (x.toList == [] || x_1.toList == x_2.toList) (∀ (W : World), Loc w.heap.size [Blk.mk n 107
 (arrI .u8 id 32 0 ++ ([Value.string g, .string t, .int .i64 r, .int .i64 st] ++ arrI .u8 mo 16 0 ++ ([Value.int .i64 de, .string rs, .bool le] ++ arrI .u8 ho 16 0 ++ [Value.int .i64 si]))) 2] w W -> W.cell? (Addr.mk b2 0 none) = some (.int .i64 x_4)) /\ ∀ (W : World), Loc w.heap.size [Blk.mk n 107 (arrI .u8 id 32 0 ++ ([Value.string g, .string t, .int .i64 r, .int .i64 st] ++ arrI .u8 mo 16 0 ++ ([Value.int .i64 de, .string rs, .bool le] ++ arrI .u8 ho 16 0 ++ [Value.int .i64 si]))) 2] w W -> R (.returned (.bool ((x.toList == [] || x_1.toList == x_2.toList) && x_3 == x_4))) W
theorem vc_lisC (id : Nat -> Int) (mo : Nat -> Int) (g : ByteArray) (t : ByteArray) (r : Int) (st : Int) (de : Int) (rs : ByteArray) (le : Bool) (ho : Nat -> Int) (si : Int) (b1 : Nat) (b2 : Nat) (w : World) (R : Ending -> World -> Prop) (h : VC_lisC id mo g t r st de rs le ho si b1 b2 w R) : Calls Tryz.prog 66 ([Value.agg (arrI .u8 id 32 0 ++ ([Value.string g, .string t, .int .i64 r, .int .i64 st] ++ (arrI .u8 mo 16 0 ++ ([Value.int .i64 de, .string rs, .bool le] ++ (arrI .u8 ho 16 0 ++ [Value.int .i64 si]))))).toArray, .pointer (some { block := b1, off := 0 }), .pointer (some { block := b2, off := 0 })] : List Value).toArray w R :=
 calls_of_exec2' (loops := []) (tails := []) (joins := []) (boxes := []) (rngs := []) (c := Tryz.f66.body.getD .skip) pur1_ok Tryz.func66 (by kernel_rfl) (by kernel_rfl) h
def VC_clmC (id : Nat -> Int) (mo : Nat -> Int) (g : ByteArray) (t : ByteArray) (r : Int) (st : Int) (de : Int) (rs : ByteArray) (le : Bool) (ho : Nat -> Int) (si : Int) (b1 : Nat) (b2 : Nat) (b3 : Nat) (w : World) (R : Ending -> World -> Prop) : Prop := ∀ (n : Nat), ∃ (x : ByteArray), (∀ (W : World), Loc w.heap.size [Blk.mk n 107 (arrI .u8 id 32 0 ++ ([Value.string g, .string t, .int .i64 r, .int .i64 st] ++ arrI .u8 mo 16 0 ++ ([Value.int .i64 de, .string rs, .bool le] ++ arrI .u8 ho 16 0 ++ [Value.int .i64 si]))) 2] w W -> W.cell? (Addr.mk b1 0 none) = some (.string x)) /\ ∃ (x_1 : Int), gimp (g.toList == x.toList) (∀ (W : World), Loc w.heap.size [Blk.mk n 107 (arrI .u8 id 32 0 ++ ([Value.string g, .string t, .int .i64 r, .int .i64 st] ++ arrI .u8 mo 16 0 ++ ([Value.int .i64 de, .string rs, .bool le] ++ arrI .u8 ho 16 0 ++ [Value.int .i64 si]))) 2] w W ->
 W.cell? (Addr.mk n (0 + 35) none) = some (.int .i64 x_1)) /\ ∃ (f : Nat -> Int), gimp (g.toList == x.toList && x_1 == 0) (∀ (W : World), Loc w.heap.size [Blk.mk n 107 (arrI .u8 id 32 0 ++ ([Value.string g, .string t, .int .i64 r, .int .i64 st] ++ arrI .u8 mo 16 0 ++ ([Value.int .i64 de, .string rs, .bool le] ++ arrI .u8 ho 16 0 ++ [Value.int .i64 si]))) 2] w W -> AtL W b2 0 (arrI .u8 f 16 0)) /\ ∃ (x_2 : Int), gimp (g.toList == x.toList && x_1 == 0) (∀ (W : World), Loc w.heap.size [Blk.mk n 107 (arrI .u8 id 32 0 ++ ([Value.string g, .string t, .int .i64 r, .int .i64 st] ++ arrI .u8 mo 16 0 ++ ([Value.int .i64 de, .string rs, .bool le] ++ arrI .u8 ho 16 0 ++ [Value.int .i64 si]))) 2] w W -> W.cell? (Addr.mk b3 0 none) = some (.int .i64 x_2)) /\ ∀ (W : World), Loc w.heap.size [Blk.mk n 107 (arrI .u8 id 32 0 ++ ([Value.string g, .string t,
 .int .i64 r, .int .i64 st] ++ arrI .u8 mo 16 0 ++ ([Value.int .i64 de, .string rs, .bool le] ++ arrI .u8 ho 16 0 ++ [Value.int .i64 si]))) 2] w W -> bsp (g.toList == x.toList && x_1 == 0) (CallsS Tryz.prog 77 #[.agg (arrI .u8 id 32 0 ++ ([Value.string g, .string t, .int .i64 r, .int .i64 st] ++ arrI .u8 mo 16 0 ++ ([Value.int .i64 de, .string rs, .bool le] ++ arrI .u8 ho 16 0 ++ [Value.int .i64 si]))).toArray, .agg (arrI .u8 f 16 0).toArray, .int .i64 x_2] W fun (e : Ending) (w' : World) => ∃ (x : Bool), e = .returned (.bool x) /\ KeptL [n] W w' /\ R (.returned (.bool (true && !x))) w') (KeptL [n] W W /\ R (.returned (.bool false)) W)
theorem vc_clmC (id : Nat -> Int) (mo : Nat -> Int) (g : ByteArray) (t : ByteArray) (r : Int) (st : Int) (de : Int) (rs : ByteArray) (le : Bool) (ho : Nat -> Int) (si : Int) (b1 : Nat) (b2 : Nat) (b3 : Nat) (w : World) (R : Ending -> World -> Prop) (h : VC_clmC id mo g t r st de rs le ho si b1 b2 b3 w R) : Calls Tryz.prog 76 ([Value.agg (arrI .u8 id 32 0 ++ ([Value.string g, .string t, .int .i64 r, .int .i64 st] ++ (arrI .u8 mo 16 0 ++ ([Value.int .i64 de, .string rs, .bool le] ++ (arrI .u8 ho 16 0 ++ [Value.int .i64 si]))))).toArray, .pointer (some { block := b1, off := 0 }), .pointer (some { block := b2, off := 0 }), .pointer (some { block := b3, off := 0 })] : List Value).toArray w R :=
 calls_of_exec2' (loops := []) (tails := []) (joins := []) (boxes := []) (rngs := []) (c := Tryz.f76.body.getD .skip) pur1_ok Tryz.func76 (by kernel_rfl) (by kernel_rfl) h
def VC_lapC (id : Nat -> Int) (mo : Nat -> Int) (g : ByteArray) (t : ByteArray) (r : Int) (st : Int) (de : Int) (rs : ByteArray) (le : Bool) (ho : Nat -> Int) (si : Int) (b1 : Nat) (w : World) (R : Ending -> World -> Prop) : Prop := ∀ (n : Nat), ∃ (x : Int), gimp (st == 0) (∀ (W : World), Loc w.heap.size [Blk.mk n 107 (arrI .u8 id 32 0 ++ ([Value.string g, .string t, .int .i64 r, .int .i64 st] ++ arrI .u8 mo 16 0 ++ ([Value.int .i64 de, .string rs, .bool le] ++ arrI .u8 ho 16 0 ++ [Value.int .i64 si]))) 2] w W -> W.cell? (Addr.mk n (0 + 34) none) = some (.int .i64 x)) /\ ∃ (x_1 : Int), gimp (st == 0) (∀ (W : World), Loc w.heap.size [Blk.mk n 107 (arrI .u8 id 32 0 ++ ([Value.string g, .string t, .int .i64 r, .int .i64 st] ++ arrI .u8 mo 16 0 ++ ([Value.int .i64 de, .string rs, .bool le] ++ arrI .u8 ho 16 0 ++ [Value.int .i64 si]))) 2] w W ->
 W.cell? (Addr.mk b1 0 none) = some (.int .i64 x_1)) /\ ∀ (W : World), Loc w.heap.size [Blk.mk n 107 (arrI .u8 id 32 0 ++ ([Value.string g, .string t, .int .i64 r, .int .i64 st] ++ arrI .u8 mo 16 0 ++ ([Value.int .i64 de, .string rs, .bool le] ++ arrI .u8 ho 16 0 ++ [Value.int .i64 si]))) 2] w W -> R (.returned (.bool (st == 0 && decide (x <= x_1)))) W
theorem vc_lapC (id : Nat -> Int) (mo : Nat -> Int) (g : ByteArray) (t : ByteArray) (r : Int) (st : Int) (de : Int) (rs : ByteArray) (le : Bool) (ho : Nat -> Int) (si : Int) (b1 : Nat) (w : World) (R : Ending -> World -> Prop) (h : VC_lapC id mo g t r st de rs le ho si b1 w R) : Calls Tryz.prog 69 ([Value.agg (arrI .u8 id 32 0 ++ ([Value.string g, .string t, .int .i64 r, .int .i64 st] ++ (arrI .u8 mo 16 0 ++ ([Value.int .i64 de, .string rs, .bool le] ++ (arrI .u8 ho 16 0 ++ [Value.int .i64 si]))))).toArray, .pointer (some { block := b1, off := 0 })] : List Value).toArray w R :=
 calls_of_exec2' (loops := []) (tails := []) (joins := []) (boxes := []) (rngs := []) (c := Tryz.f69.body.getD .skip) pur1_ok Tryz.func69 (by kernel_rfl) (by kernel_rfl) h
def VC_fgtC (id : Nat -> Int) (mo : Nat -> Int) (g : ByteArray) (t : ByteArray) (r : Int) (st : Int) (de : Int) (rs : ByteArray) (le : Bool) (ho : Nat -> Int) (si : Int) (b1 : Nat) (w : World) (R : Ending -> World -> Prop) : Prop := ∀ (n : Nat), ∃ (x : Int), gimp (st != 0) (∀ (W : World), Loc w.heap.size [Blk.mk n 107 (arrI .u8 id 32 0 ++ ([Value.string g, .string t, .int .i64 r, .int .i64 st] ++ arrI .u8 mo 16 0 ++ ([Value.int .i64 de, .string rs, .bool le] ++ arrI .u8 ho 16 0 ++ [Value.int .i64 si]))) 2] w W -> W.cell? (Addr.mk n (0 + 52) none) = some (.int .i64 x)) /\ ∃ (x_1 : Int), gimp (st != 0) (∀ (W : World), Loc w.heap.size [Blk.mk n 107 (arrI .u8 id 32 0 ++ ([Value.string g, .string t, .int .i64 r, .int .i64 st] ++ arrI .u8 mo 16 0 ++ ([Value.int .i64 de, .string rs, .bool le] ++ arrI .u8 ho 16 0 ++ [Value.int .i64 si]))) 2] w W ->
 W.cell? (Addr.mk b1 0 none) = some (.int .i64 x_1)) /\ ∀ (W : World), Loc w.heap.size [Blk.mk n 107 (arrI .u8 id 32 0 ++ ([Value.string g, .string t, .int .i64 r, .int .i64 st] ++ arrI .u8 mo 16 0 ++ ([Value.int .i64 de, .string rs, .bool le] ++ arrI .u8 ho 16 0 ++ [Value.int .i64 si]))) 2] w W -> R (.returned (.bool (st != 0 && decide (x < x_1)))) W
theorem vc_fgtC (id : Nat -> Int) (mo : Nat -> Int) (g : ByteArray) (t : ByteArray) (r : Int) (st : Int) (de : Int) (rs : ByteArray) (le : Bool) (ho : Nat -> Int) (si : Int) (b1 : Nat) (w : World) (R : Ending -> World -> Prop) (h : VC_fgtC id mo g t r st de rs le ho si b1 w R) : Calls Tryz.prog 82 ([Value.agg (arrI .u8 id 32 0 ++ ([Value.string g, .string t, .int .i64 r, .int .i64 st] ++ (arrI .u8 mo 16 0 ++ ([Value.int .i64 de, .string rs, .bool le] ++ (arrI .u8 ho 16 0 ++ [Value.int .i64 si]))))).toArray, .pointer (some { block := b1, off := 0 })] : List Value).toArray w R :=
 calls_of_exec2' (loops := []) (tails := []) (joins := []) (boxes := []) (rngs := []) (c := Tryz.f82.body.getD .skip) pur1_ok Tryz.func82 (by kernel_rfl) (by kernel_rfl) h
end Go.Proofs.YtfacflbmlfbeeaaGreatDoor
namespace Go.Proofs.YtfacflbmlfbeeaaGreatDoor
open Go.RowKit Go.Sort Go.Maps
def selE (P : En -> Bool) (es : List (Ky × En)) : List Sb := (es.filter fun p => P p.2).map (·.2.s)
theorem erase_perm39 {α : Type} : ∀ (l : List α) (j : Nat) (x : α), l[j]? = some x -> l.Perm (x :: l.eraseIdx j)
 | [], j, x, h => by simp at h
 | y :: l, 0, x, h => by
  have : y = x := by simpa using h
  subst this
  exact .refl _
 | y :: l, j + 1, x, h => by
  have ih := erase_perm39 l j x (by simpa using h)
  exact (ih.cons y).trans (.swap x y _)
theorem selE_perm {P : En -> Bool} {l : List (Ky × En)} {j : Nat} {x : Ky × En} (h : l[j]? = some x) : (selE P l).Perm ((if P x.2 = true then [x.2.s] else []) ++ selE P (l.eraseIdx j)) := by
 have h1 := (erase_perm39 l j x h)
 have h2 : (selE P l).Perm (selE P (x :: l.eraseIdx j)) := ((h1.filter _).map _)
 refine h2.trans ?_
 unfold selE
 rw [List.filter_cons]
 split
 ·exact .refl _
 ·exact .refl _
theorem selE_le (P : En -> Bool) (l : List (Ky × En)) : (selE P l).length <= l.length := by unfold selE; rw [List.length_map]; exact List.length_filter_le _ _
set_option maxHeartbeats 1000000 in
theorem selected_any {w : World} {b mb eb : Nat} {q : Qu} (h : Mq w b mb eb q) (hes : ∀ k x, (k, x) ∈ q.es -> x.OK /\ k = x.s.ky) (hln : q.es.length <= 1000000) (f : FuncId) (fa fb : Array Value) (P : En -> Bool) (hok : okFn Tryz.prog f = true)
  (hF : ∀ x : En, x.OK -> ∀ w1, K0 w w1 -> Calls Tryz.prog f (appA fa [enV x] fb) w1 fun e w2 => e = .returned (.bool (P x)) /\ K0 w1 w2) :
  Calls Tryz.prog 65 #[.pointer (some ⟨b, 0, none⟩), .func (.func f) fa fb] w fun e w' => (∃ (p : Option Addr) (c : Nat) (l : List Sb), e = .returned (.slice p l.length c) /\ l.Perm (selE P q.es) /\
   w'.ownsRow w.heap.size 48 54 (.slice p l.length c) l.length (l.flatMap sbC)) /\ K0 w w' := by
 have hmw := h.me.lt
 obtain ⟨r, w1, hrun, hR, k1, gr, rlt⟩ := h.me.range (t := 96) Tryz.underlying96
 refine vc_selected b f fa fb w _ ⟨some eb, h.cE, r, w1, hrun, .of_k0 k1, ?_⟩
 refine ⟨fun vs w' => ∃ (l : List Sb) (todo : List (Ky × En)) (p : Option Addr) (c : Nat), vs = [.slice p l.length c] /\ RngB kyV w' r eb (amap enV todo) /\ todo.Sublist q.es /\ l.length + todo.length <= q.es.length /\ (l ++ selE P todo).Perm (selE P q.es) /\
   w'.ownsRow w1.heap.size 48 54 (.slice p l.length c) l.length (l.flatMap sbC) /\ Kp (· = r) w1 w',
  fun _ w' => leftN w' r eb, ⟨[], q.es, none, 0, rfl, hR, List.Sublist.refl _, by simp, .refl _, World.ownsRow_nil _ _ _ _, .refl _ _⟩, ?_⟩
 rintro p0 n0 c0 w2 ⟨l, todo, p, c, hv, hR2, hsub, hlen, hperm, ho2, k2⟩
 simp only [List.cons.injEq, Value.slice.injEq, and_true] at hv
 obtain ⟨rfl, rfl, rfl⟩ := hv
 have hrm : ¬ eb = r := by omega
 have kw2 : K0 w w2 := k1.fresh k2 (fun j hj e => by omega)
 rcases hR2.next (P := Tryz.prog) with ⟨hnil, hnx⟩ | ⟨j, y, w3, hj, hnx, hent, hR3, k3⟩
 ·have htodo : todo = [] := by
   cases todo with
   | nil => rfl
   | cons x t => simp [amap] at hnil
  subst htodo
  refine ⟨false, [], w2, hnx, .refl _ _, bsp_intro (fun h => by cases h) (fun _ => ⟨⟨p0, c0, l, rfl, ?_, own_base ho2 k1.size⟩, kw2⟩)⟩
  simpa [selE] using hperm
 ·have hj' : ((todo.map fun p => (p.1, enV p.2)))[j]? = some y := hj
  rw [List.getElem?_map, Option.map_eq_some_iff] at hj'
  obtain ⟨y, hyj, rfl⟩ := hj'
  have hmem : y ∈ q.es := hsub.subset (List.mem_of_getElem? hyj)
  obtain ⟨hyo, hyk⟩ := hes y.1 y.2 hmem
  have her : (amap enV todo).eraseIdx j = amap enV (todo.eraseIdx j) := by unfold amap; rw [map_erase']
  rw [her] at hR3
  have hjl := (List.getElem?_eq_some_iff.1 hyj).1
  have helen : (todo.eraseIdx j).length = todo.length - 1 := List.length_eraseIdx_of_lt hjl
  have hpm := selE_perm (P := P) hyj
  have hl2 := hR2.left
  have hlam : (amap enV todo).length = todo.length := by simp [amap]
  have hlam3 : (amap enV (todo.eraseIdx j)).length = todo.length - 1 := by simp [amap, helen]
  have hr3 : r < w3.heap.size := by
   have := k2.size; have := k3.size; omega
  have ho3 := owns_kp ho2 k3 (fun k hk e => by have := own_ge ho2 hk; omega)
  have kw3 : K0 w w3 := kw2.fresh k3 (fun j hj e => by omega)
  refine ⟨true, _, w3, hnx, .of_kp k3 (fun y hy e => by cases hy), bsp_intro (fun _ => ?_) (fun h => by cases h)⟩
  refine ⟨y.2.s.id, y.2.s.g, y.2.s.id, y.2.s.g, y.2.s.tx, y.2.s.r, y.2.s.st, y.2.s.mo, y.2.s.de, y.2.s.rs, y.2.le, y.2.ho, y.2.si, ?_, fun n4 W hW => ?_⟩
  ·have hk : kyV y.1 = .agg (arrI .u8 y.2.s.id 32 0 ++ ([.string y.2.s.g] : List Value)).toArray := by rw [hyk]; rfl
   rw [<- hk]; exact hent
  have kW : K0 w3 W := hW.kk rfl
  refine ⟨f, fa, fb, rfl, hok, ⟨(hF y.2 hyo W (kw3.trans kW)).mono fun e w4 ⟨he, k4⟩ => ⟨_, he, .of_k0 k4, bsp_intro (fun hd => fun n5 W5 hW5 => ?_) (fun hd => ?_)⟩⟩⟩
  ·have k5 : K0 w4 W5 := hW5.kk rfl
   have k35 : K0 w3 W5 := (kW.trans k4).trans k5
   have ho5 := owns_kp ho3 k35 (fun _ _ h => h)
   have e1 : l.length + 1 = (l ++ [y.2.s]).length := by simp
   have e2 : (l ++ [y.2.s]).flatMap sbC = l.flatMap sbC ++ sbC y.2.s := by rw [List.flatMap_append]; simp [List.flatMap_cons]
   have c1' := hW5.cells 1 rfl
   refine ⟨w1.heap.size, l.flatMap sbC, ho5, by omega, by omega, Nat.le_trans k2.size (Nat.le_trans k3.size k35.size), fun p' c' w6 ho6 hg6 _ => ⟨?_, ⟨l ++ [y.2.s], todo.eraseIdx j, p', c', by rw [<- e1], ?_, ((List.eraseIdx_sublist _ _).trans hsub), by rw [<- e1, helen]; omega, ?_, by rw [<- e1, e2]; exact ho6, ?_⟩, ?_⟩⟩
   ·refine .of_kp (kp_grown hg6) (fun z hz => ?_)
    simp only [List.mem_cons, List.not_mem_nil, or_false] at hz
    subst hz
    exact own_not ho5 c1' rfl
   ·refine (hR3.kp k35 (fun h => h) (fun h => h)).kp (kp_grown hg6) (fun e => ?_) (fun e => ?_)
    ·have := own_ge ho5 e; omega
    ·have := own_ge ho5 e; omega
   ·refine List.Perm.trans ?_ hperm
    rw [List.append_assoc]
    refine List.Perm.append_left _ ?_
    rw [if_pos hd] at hpm
    exact hpm.symm
   ·exact ((k2.trans k3).trans (k35.mono fun _ _ h => h.elim)).fresh (kp_grown hg6) (fun i hi e => by have := own_ge ho5 e; omega)
   ·have hg := (kp_grown hg6)
    have hR6 := (hR3.kp k35 (fun h => h) (fun h => h)).kp hg (fun e => by have := own_ge ho5 e; omega) (fun e => by have := own_ge ho5 e; omega)
    show leftN w6 r eb < leftN w2 r eb
    rw [hR6.left, hl2]; omega
  ·have k34 : K0 w3 w4 := kW.trans k4
   have hR4 := hR3.kp k34 (fun h => h) (fun h => h)
   refine ⟨⟨l, todo.eraseIdx j, p0, c0, rfl, hR4, ((List.eraseIdx_sublist _ _).trans hsub), by rw [helen]; omega, ?_, owns_kp ho3 k34 (fun _ _ h => h), (k2.trans k3).trans (k34.mono fun _ _ h => h.elim)⟩, by show leftN w4 r eb < leftN w2 r eb; rw [hR4.left, hl2]; omega⟩
   refine List.Perm.trans ?_ hperm
   refine List.Perm.append_left _ ?_
   have hd' : ¬ P y.2 = true := by rw [hd]; decide
   rw [if_neg hd'] at hpm
   exact hpm.symm
def lsP (g : ByteArray) (st : Int) (x : En) : Bool := (decide (g = ⟨#[]⟩) || decide (x.s.g = g)) && x.s.st == st
theorem str_nil (g : ByteArray) : (g.toList == []) = decide (g = ⟨#[]⟩) := by rw [<- str_beq]; rw [ByteArray.toList_eq ⟨#[]⟩]
theorem lisC_any (x : En) (g : ByteArray) (st : Int) (b1 b2 : Nat) (w : World) (h1 : w.cell? ⟨b1, 0, none⟩ = some (.string g)) (h2 : w.cell? ⟨b2, 0, none⟩ = some (.int .i64 st)) :
  Calls Tryz.prog 66 #[enV x, .pointer (some ⟨b1, 0, none⟩), .pointer (some ⟨b2, 0, none⟩)] w fun e w' => e = .returned (.bool (lsP g st x)) /\ K0 w w' := by
 refine vc_lisC x.s.id x.s.mo x.s.g x.s.tx x.s.r x.s.st x.s.de x.s.rs x.le x.ho x.si b1 b2 w _ (fun n => ⟨g, fun W hW => (hW.kk rfl : K0 w W).cell' h1 (fun h => h), x.s.g, gimp_intro fun _ W hW => cell_at (hW.cells 0 rfl) rfl, g, gimp_intro fun _ W hW => (hW.kk rfl : K0 w W).cell' h1 (fun h => h), x.s.st, gimp_intro fun _ W hW => cell_at (hW.cells 0 rfl) rfl, st, gimp_intro fun _ W hW => (hW.kk rfl : K0 w W).cell' h2 (fun h => h), fun W hW => ⟨by unfold lsP; rw [str_nil, str_beq], hW.kk rfl⟩⟩)
theorem Qu.OK.mem {q : Qu} (h : q.OK) (hd : q.es.Pairwise fun p q => p.1 ≠ q.1) : ∀ k x, (k, x) ∈ q.es -> x.OK /\ k = x.s.ky := fun k x hm => by
 have := h.es k x (aget_at hd hm)
 exact ⟨this.1, this.2.1⟩
theorem Mq.dis {w : World} {b mb eb : Nat} {q : Qu} (h : Mq w b mb eb q) : q.es.Pairwise fun p q => p.1 ≠ q.1 := by
 have := h.me.dis
 unfold amap at this
 rw [List.pairwise_map] at this
 exact this
theorem selE_mem {P : En -> Bool} {es : List (Ky × En)} {x : Sb} (h : x ∈ selE P es) : ∃ k e, (k, e) ∈ es /\ P e = true /\ e.s = x := by
 unfold selE at h
 obtain ⟨p, hp, rfl⟩ := List.mem_map.1 h
 obtain ⟨h1, h2⟩ := List.mem_filter.1 hp
 exact ⟨p.1, p.2, h1, h2, rfl⟩
set_option maxRecDepth 100000 in
theorem list_any {w : World} {b mb eb : Nat} {q : Qu} (h : Mq w b mb eb q) (ho : q.OK) (hln : q.es.length <= 1000000) (g : ByteArray) (st : Int) (hG : GW w) :
  Calls Tryz.prog 32 #[.pointer (some ⟨b, 0, none⟩), .string g, .int .i64 st] w fun e w' => (∃ (p : Option Addr) (c : Nat) (l : List Sb), e = .returned (.slice p l.length c) /\ l.Perm (selE (lsP g st) q.es) /\ (l.Pairwise fun x y => ¬ cfM y x < 0) /\
   w'.ownsRow w.heap.size 48 54 (.slice p l.length c) l.length (l.flatMap sbC)) /\ K0 w w' := by
 refine vc_list_ b g st w _ (fun n n1 W hW => ?_)
 have kW : K0 w W := hW.kk rfl
 have c0 := hW.cells 0 rfl
 have c1 := hW.cells 1 rfl
 have hm := ho.mem h.dis
 have hF : ∀ x : En, x.OK -> ∀ w1, K0 W w1 -> Calls Tryz.prog 66 (appA #[] [enV x] #[.pointer (some ⟨n, 0, none⟩), .pointer (some ⟨n1, 0, none⟩)]) w1 fun e w2 => e = .returned (.bool (lsP g st x)) /\ K0 w1 w2 := fun x hx w1 k1 => by
  have h1 := lisC_any x g st n n1 w1 (cell_at (k1.blk c1 (fun h => h)) rfl) (cell_at (k1.blk c0 (fun h => h)) rfl)
  generalize enV x = v at h1 ⊢
  exact h1
 refine ⟨(selected_any (h.k0 kW) hm hln 66 #[] #[.pointer (some ⟨n, 0, none⟩), .pointer (some ⟨n1, 0, none⟩)] (lsP g st) (by kernel_rfl) hF).mono fun e w2 ⟨⟨p, c, l, he, hp, hown⟩, k2⟩ => ⟨_, _, _, he, .of_k0 k2, ?_⟩⟩
 have k02 := kW.trans k2
 have hl : l.length <= q.es.length := by rw [hp.length_eq]; exact selE_le _ _
 refine ⟨(msort_any l p c w2 hown (fun x hx => ?_) (by omega) (hG.kp k02 (fun h => h))).mono fun e w3 ⟨he, l', hp', hs, ho', k3⟩ => ⟨he, .of_kp k3 (fun z hz => by cases hz), ⟨p, c, l', by rw [hp'.length_eq], hp'.trans hp, hs, own_base ho' kW.size⟩, k02.fresh k3 (fun i hi e => by have := own_ge hown e; have := kW.size; omega)⟩⟩
 obtain ⟨k, en, h1, _, rfl⟩ := selE_mem (hp.subset hx)
 exact (hm k en h1).1.s.g
theorem count_any {w : World} {b mb eb : Nat} {q : Qu} (h : Mq w b mb eb q) (ho : q.OK) (hln : q.es.length <= 1000000) (g : ByteArray) (st : Int) (hG : GW w) :
  Calls Tryz.prog 15 #[.pointer (some ⟨b, 0, none⟩), .string g, .int .i64 st] w fun e w' => e = .returned (.int .i64 ((selE (lsP g st) q.es).length : Nat)) /\ K0 w w' :=
 vc_count_ b g st w _ ⟨(list_any h ho hln g st hG).mono fun e w2 ⟨⟨p, c, l, he, hp, _⟩, k2⟩ => ⟨_, _, _, he, .of_k0 k2, by rw [hp.length_eq], k2⟩⟩
set_option maxHeartbeats 1000000 in
theorem minf_any (l : List Sb) (p : Option Addr) (c : Nat) (w : World) (hR : RowA sbC 54 w p l) (h0 : 0 < l.length) (hg : ∀ x ∈ l, x.g.size <= 1073741824) (hl : l.length <= 1000000) (hG : GW w) :
  Calls Tryz.prog 78 #[.slice p l.length c, .func (.func 68) #[] #[]] w fun e w' => (∃ x, e = .returned (sbV x) /\ x ∈ l /\ ∀ y ∈ l, ¬ cfM y x < 0) /\ K0 w w' := by
 obtain ⟨x0, b0, o0, hx0, hp0, hat0⟩ := hR.get h0
 refine vc_minf p l.length c _ _ _ w _ (fun n1 => bsp_intro (fun h => by exfalso; simp at h; omega) (fun _ => ?_))
 rw [Nat.zero_mul, Nat.add_zero] at hat0
 refine nn_is hp0 ⟨⟨by omega, by omega⟩, x0.id, x0.g, x0.tx, x0.r, x0.st, x0.mo, x0.de, x0.rs, fun W hW => hat0.k0 (hW.kk rfl), fun n2 W hW => ?_⟩
 have kW : K0 w W := hW.kk rfl
 have c0 := hW.cells 0 rfl
 have g2 : w.heap.size <= n2 := hW.fresh 0 rfl rfl
 have hap := hW.apart 0 1 rfl rfl (by decide)
 simp only at hap
 refine ⟨fun vs w' => ∃ (i : Nat) (m : Sb), vs = [.int .i64 (i : Int)] /\ 1 <= i /\ i <= l.length /\ m ∈ l /\ (∀ y ∈ l.take i, ¬ cfM y m < 0) /\ w'.heap[n2]? = some (.cells (sbC m).toArray 48 (0, 0)) /\ K0 w w',
  fun vs _ => (match vs with | .int _ a :: _ => l.length - a.toNat | _ => 0), ⟨1, x0, rfl, by omega, by omega, List.mem_of_getElem? hx0, fun y hy => ?_, c0, kW⟩, ?_⟩
 ·have : l.take 1 = [x0] := by
   cases l with
   | nil => cases hx0
   | cons a r => simp at hx0; subst hx0; rfl
  rw [this] at hy
  simp at hy; subst hy
  have := cfM_ord.self y
  omega
 rintro xi w1 ⟨i, m, hv, hi1, hil, hm, hmin, hb2, k1⟩ hL1
 simp only [List.cons.injEq, Value.int.injEq, true_and, and_true] at hv
 subst hv
 refine bsp_intro (fun hlt => ?_) (fun hge => ?_)
 ·have hlt : i < l.length := by simp at hlt; omega
  obtain ⟨x, b1, o1, hx, hpp, hat⟩ := (hR.k0 k1).get hlt
  rw [hp0] at hpp
  simp only [Option.some.injEq, Addr.mk.injEq, and_true] at hpp
  obtain ⟨rfl, rfl⟩ := hpp
  rw [Int.toNat_natCast]
  refine nn_is hp0 ⟨⟨by omega, by omega⟩, x.id, x.g, x.tx, x.r, x.st, x.mo, x.de, x.rs, fun W hW => hat.k0 (hW.kk rfl), m.id, m.g, m.tx, m.r, m.st, m.mo, m.de, m.rs, fun W hW => AtL_block ((hW.kk rfl : K0 w1 W).blk hb2 (fun h => h)) rfl, fun W3 hW3 => ⟨_, _, _, rfl, by kernel_rfl, ?_⟩⟩
  have k3 : K0 w1 W3 := hW3.kk rfl
  have inc : IntKind.i64.wrap ((i : Int) + 1) = ((i + 1 : Nat) : Int) := inc64 (by omega)
  refine ⟨(mdcmp_any x m W3 (hg x (List.mem_of_getElem? hx)) (hg m hm) (hG.kp (k1.trans k3) (fun h => h))).mono fun e w4 ⟨he, k4, _⟩ => ⟨_, he, .of_k0 k4, ?_⟩⟩
  have k34 := k3.trans k4
  have hb4 := k34.blk hb2 (fun h => h)
  rw [inc]
  refine bsp_intro (fun hlt2 => ?_) (fun hge2 => ?_)
  ·have hlt2 : cfM x m < 0 := by simpa using hlt2
   refine nn_is hp0 ⟨⟨by omega, by omega⟩, x.id, x.g, x.tx, x.r, x.st, x.mo, x.de, x.rs, hat.k0 k34, WrL_block hb4 (by show 0 + 54 <= 54; omega), fun w5 hp5 => ⟨put_kept hp5 (fun z hz => ?_), ⟨i + 1, x, rfl, by omega, hlt, List.mem_of_getElem? hx, fun y hy => ?_, hp5.full hb4 rfl, (k1.trans k34).fresh hp5.kp (fun j hj e => by omega)⟩, by simp only [Int.toNat_natCast]; omega⟩⟩
   ·simp only [List.mem_cons, List.not_mem_nil, or_false] at hz
    subst hz
    exact fun e => hap e.symm
   ·rw [take_snoc hx] at hy
    rcases List.mem_append.1 hy with hy | hy
    ·have h1 := hmin y hy
     have h2 := cfM_ord.anti y m
     have h3 := cfM_ord.anti y x
     intro hc
     rcases Int.lt_or_eq_of_le (show cfM x m <= 0 by omega) with h4 | h4
     ·exact h1 (cfM_ord.tlt _ _ _ hc h4)
     ·omega
    ·simp at hy; subst hy
     have := cfM_ord.self y
     omega
  ·have hge2 : ¬ cfM x m < 0 := by simpa using hge2
   refine ⟨⟨i + 1, m, rfl, by omega, hlt, hm, fun y hy => ?_, hb4, k1.trans k34⟩, by simp only [Int.toNat_natCast]; omega⟩
   rw [take_snoc hx] at hy
   rcases List.mem_append.1 hy with hy | hy
   ·exact hmin y hy
   ·simp at hy; subst hy; exact hge2
 ·have hi : i = l.length := by simp at hge; omega
  subst hi
  rw [List.take_length] at hmin
  refine ⟨m.id, m.g, m.tx, m.r, m.st, m.mo, m.de, m.rs, AtL_block hb2 rfl, fun W hW => ⟨⟨m, rfl, hm, hmin⟩, hW.k0 k1⟩⟩
end Go.Proofs.YtfacflbmlfbeeaaGreatDoor
namespace Go.Proofs.YtfacflbmlfbeeaaGreatDoor
set_option maxRecDepth 100000
set_option linter.unusedVariables false
def VC_claim (b : Nat) (s : ByteArray) (a : Nat -> Int) (now : Int) (w : World) (R : Ending -> World -> Prop) : Prop := ∀ (n n_1 n_2 n_3 : Nat) (W : World), Loc w.heap.size [Blk.mk n_3 48 [Value.int .u8 0, .int .u8 0, .int .u8 0, .int .u8 0, .int .u8 0, .int .u8 0, .int .u8 0, .int .u8 0, .int .u8 0, .int .u8 0, .int .u8 0, .int .u8 0, .int .u8 0, .int .u8 0, .int .u8 0, .int .u8 0, .int .u8 0, .int .u8 0, .int .u8 0, .int .u8 0, .int .u8 0, .int .u8 0, .int .u8 0, .int .u8 0, .int .u8 0, .int .u8 0, .int .u8 0, .int .u8 0, .int .u8 0, .int .u8 0, .int .u8 0, .int .u8 0, .string (ByteArray.mk #[]), .string (ByteArray.mk #[]), .int .i64 0, .int .i64 0, .int .u8 0, .int .u8 0, .int .u8 0, .int .u8 0, .int .u8 0, .int .u8 0, .int .u8 0, .int .u8 0, .int .u8 0, .int .u8 0, .int .u8 0, .int .u8 0, .int .u8 0, .int .u8 0, .int .u8 0, .int .u8 0, .int .i64 0, .string (ByteArray.mk #[])] 2,
 Blk.mk n_2 3 [Value.int .i64 now] 2, Blk.mk n_1 45 (arrI .u8 a 16 0) 2, Blk.mk n 9 [Value.string s] 2] w W -> CallsS Tryz.prog 48 #[.pointer (some (Addr.mk b 0 none)), .int .i64 now] W fun (e : Ending) (w' : World) => ∃ (x : Int), e = .returned (.int .i64 x) /\ KeptL [n_3, n_2, n_1, n] W w' /\ bsp (x != 0) (∀ (W : World), Loc w.heap.size [Blk.mk n_3 48 [Value.int .u8 0, .int .u8 0, .int .u8 0, .int .u8 0, .int .u8 0, .int .u8 0, .int .u8 0, .int .u8 0, .int .u8 0, .int .u8 0, .int .u8 0, .int .u8 0, .int .u8 0, .int .u8 0, .int .u8 0, .int .u8 0, .int .u8 0, .int .u8 0, .int .u8 0, .int .u8 0, .int .u8 0, .int .u8 0, .int .u8 0, .int .u8 0, .int .u8 0, .int .u8 0, .int .u8 0, .int .u8 0, .int .u8 0, .int .u8 0, .int .u8 0, .int .u8 0, .string (ByteArray.mk #[]), .string (ByteArray.mk #[]), .int .i64 0, .int .i64 0, .int .u8 0, .int .u8 0, .int .u8 0,
 .int .u8 0, .int .u8 0, .int .u8 0, .int .u8 0, .int .u8 0, .int .u8 0, .int .u8 0, .int .u8 0, .int .u8 0, .int .u8 0, .int .u8 0, .int .u8 0, .int .u8 0, .int .i64 0, .string (ByteArray.mk #[])] (wrM 0), Blk.mk n_2 3 [Value.int .i64 now] 0, Blk.mk n_1 45 (arrI .u8 a 16 0) 0, Blk.mk n 9 [Value.string s] 0] w' W -> R (.returned (.tuple #[.agg #[.int .u8 0, .int .u8 0, .int .u8 0, .int .u8 0, .int .u8 0, .int .u8 0, .int .u8 0, .int .u8 0, .int .u8 0, .int .u8 0, .int .u8 0, .int .u8 0, .int .u8 0, .int .u8 0, .int .u8 0, .int .u8 0, .int .u8 0, .int .u8 0, .int .u8 0, .int .u8 0, .int .u8 0, .int .u8 0, .int .u8 0, .int .u8 0, .int .u8 0, .int .u8 0, .int .u8 0, .int .u8 0, .int .u8 0, .int .u8 0, .int .u8 0, .int .u8 0, .string (ByteArray.mk #[]), .string (ByteArray.mk #[]), .int .i64 0, .int .i64 0, .int .u8 0, .int .u8 0, .int .u8 0, .int .u8 0, .int .u8 0, .int .u8 0, .int .u8 0,
 .int .u8 0, .int .u8 0, .int .u8 0, .int .u8 0, .int .u8 0, .int .u8 0, .int .u8 0, .int .u8 0, .int .u8 0, .int .i64 0, .string (ByteArray.mk #[])], .int .i64 x])) W) (CallsS Tryz.prog 75 #[.pointer (some (Addr.mk b 0 none)), .string s, .agg (arrI .u8 a 16 0).toArray] w' fun (e : Ending) (w'_1 : World) => ∃ (x : Bool), e = .returned (.bool x) /\ KeptL [n_3, n_2, n_1, n] w' w'_1 /\ bsp (!x) (∀ (W : World), Loc w.heap.size [Blk.mk n_3 48 [Value.int .u8 0, .int .u8 0, .int .u8 0, .int .u8 0, .int .u8 0, .int .u8 0, .int .u8 0, .int .u8 0, .int .u8 0, .int .u8 0, .int .u8 0, .int .u8 0, .int .u8 0, .int .u8 0, .int .u8 0, .int .u8 0, .int .u8 0, .int .u8 0, .int .u8 0, .int .u8 0, .int .u8 0, .int .u8 0, .int .u8 0, .int .u8 0, .int .u8 0, .int .u8 0, .int .u8 0, .int .u8 0, .int .u8 0, .int .u8 0, .int .u8 0, .int .u8 0,
 .string (ByteArray.mk #[]), .string (ByteArray.mk #[]), .int .i64 0, .int .i64 0, .int .u8 0, .int .u8 0, .int .u8 0, .int .u8 0, .int .u8 0, .int .u8 0, .int .u8 0, .int .u8 0, .int .u8 0, .int .u8 0, .int .u8 0, .int .u8 0, .int .u8 0, .int .u8 0, .int .u8 0, .int .u8 0, .int .i64 0, .string (ByteArray.mk #[])] (wrM 0), Blk.mk n_2 3 [Value.int .i64 now] 0, Blk.mk n_1 45 (arrI .u8 a 16 0) 0, Blk.mk n 9 [Value.string s] 0] w'_1 W -> R (.returned (.tuple #[.agg #[.int .u8 0, .int .u8 0, .int .u8 0, .int .u8 0, .int .u8 0, .int .u8 0, .int .u8 0, .int .u8 0, .int .u8 0, .int .u8 0, .int .u8 0, .int .u8 0, .int .u8 0, .int .u8 0, .int .u8 0, .int .u8 0, .int .u8 0, .int .u8 0, .int .u8 0, .int .u8 0, .int .u8 0, .int .u8 0, .int .u8 0, .int .u8 0, .int .u8 0, .int .u8 0, .int .u8 0, .int .u8 0, .int .u8 0, .int .u8 0, .int .u8 0, .int .u8 0,
 .string (ByteArray.mk #[]), .string (ByteArray.mk #[]), .int .i64 0, .int .i64 0, .int .u8 0, .int .u8 0, .int .u8 0, .int .u8 0, .int .u8 0, .int .u8 0, .int .u8 0, .int .u8 0, .int .u8 0, .int .u8 0, .int .u8 0, .int .u8 0, .int .u8 0, .int .u8 0, .int .u8 0, .int .u8 0, .int .i64 0, .string (ByteArray.mk #[])], .int .i64 20])) W) (CallsS Tryz.prog 65 #[.pointer (some (Addr.mk b 0 none)), Value.func (Fn.func 76) #[] #[.pointer (some (Addr.mk n 0 none)), .pointer (some (Addr.mk n_1 0 none)), .pointer (some (Addr.mk n_2 0 none))]] w'_1 fun (e : Ending) (w' : World) => ∃ (p : Option Addr) (n : Nat) (c : Nat), e = .returned (.slice p n c) /\ KeptL [n_3] w'_1 w' /\ bsp ((↑n : Int) == 0) (∀ (W : World), Loc w.heap.size [Blk.mk n_3 48 [Value.int .u8 0, .int .u8 0, .int .u8 0, .int .u8 0, .int .u8 0, .int .u8 0, .int .u8 0, .int .u8 0, .int .u8 0, .int .u8 0, .int .u8 0, .int .u8 0,
 .int .u8 0, .int .u8 0, .int .u8 0, .int .u8 0, .int .u8 0, .int .u8 0, .int .u8 0, .int .u8 0, .int .u8 0, .int .u8 0, .int .u8 0, .int .u8 0, .int .u8 0, .int .u8 0, .int .u8 0, .int .u8 0, .int .u8 0, .int .u8 0, .int .u8 0, .int .u8 0, .string (ByteArray.mk #[]), .string (ByteArray.mk #[]), .int .i64 0, .int .i64 0, .int .u8 0, .int .u8 0, .int .u8 0, .int .u8 0, .int .u8 0, .int .u8 0, .int .u8 0, .int .u8 0, .int .u8 0, .int .u8 0, .int .u8 0, .int .u8 0, .int .u8 0, .int .u8 0, .int .u8 0, .int .u8 0, .int .i64 0, .string (ByteArray.mk #[])] (wrM 0)] w' W -> R (.returned (.tuple #[.agg #[.int .u8 0, .int .u8 0, .int .u8 0, .int .u8 0, .int .u8 0, .int .u8 0, .int .u8 0, .int .u8 0, .int .u8 0, .int .u8 0, .int .u8 0, .int .u8 0, .int .u8 0, .int .u8 0, .int .u8 0, .int .u8 0, .int .u8 0, .int .u8 0, .int .u8 0, .int .u8 0, .int .u8 0, .int .u8 0, .int .u8 0, .int .u8 0,
 .int .u8 0, .int .u8 0, .int .u8 0, .int .u8 0, .int .u8 0, .int .u8 0, .int .u8 0, .int .u8 0, .string (ByteArray.mk #[]), .string (ByteArray.mk #[]), .int .i64 0, .int .i64 0, .int .u8 0, .int .u8 0, .int .u8 0, .int .u8 0, .int .u8 0, .int .u8 0, .int .u8 0, .int .u8 0, .int .u8 0, .int .u8 0, .int .u8 0, .int .u8 0, .int .u8 0, .int .u8 0, .int .u8 0, .int .u8 0, .int .i64 0, .string (ByteArray.mk #[])], .int .i64 8])) W) (CallsS Tryz.prog 78 #[.slice p n c, Value.func (Fn.func 68) #[] #[]] w' fun (e : Ending) (w'_2 : World) => ∃ (f : Nat -> Int) (x : ByteArray), ∃ (x_1 : ByteArray) (x_2 : Int), ∃ (x_3 : Int) (f_1 : Nat -> Int), ∃ (x_4 : Int) (x_5 : ByteArray), e = .returned (.agg (arrI .u8 f 32 0 ++ ([Value.string x, .string x_1, .int .i64 x_2, .int .i64 x_3] ++ arrI .u8 f_1 16 0 ++ [Value.int .i64 x_4, .string x_5])).toArray) /\ KeptL [n_3] w' w'_2 /\ ∀ (n : Nat),
 ∃ (x_6 : Option Nat), (∀ (W : World), Loc w.heap.size [Blk.mk n 48 (arrI .u8 f 32 0 ++ ([Value.string x, .string x_1, .int .i64 x_2, .int .i64 x_3] ++ arrI .u8 f_1 16 0 ++ [Value.int .i64 x_4, .string x_5])) (wrM 2), Blk.mk n_3 48 [Value.int .u8 0, .int .u8 0, .int .u8 0, .int .u8 0, .int .u8 0, .int .u8 0, .int .u8 0, .int .u8 0, .int .u8 0, .int .u8 0, .int .u8 0, .int .u8 0, .int .u8 0, .int .u8 0, .int .u8 0, .int .u8 0, .int .u8 0, .int .u8 0, .int .u8 0, .int .u8 0, .int .u8 0, .int .u8 0, .int .u8 0, .int .u8 0, .int .u8 0, .int .u8 0, .int .u8 0, .int .u8 0, .int .u8 0, .int .u8 0, .int .u8 0, .int .u8 0, .string (ByteArray.mk #[]), .string (ByteArray.mk #[]), .int .i64 0, .int .i64 0, .int .u8 0, .int .u8 0, .int .u8 0, .int .u8 0, .int .u8 0, .int .u8 0, .int .u8 0, .int .u8 0, .int .u8 0, .int .u8 0, .int .u8 0, .int .u8 0, .int .u8 0, .int .u8 0,
 .int .u8 0, .int .u8 0, .int .i64 0, .string (ByteArray.mk #[])] 0] w'_2 W -> W.cell? (Addr.mk b (0 + 4) none) = some (.map x_6)) /\ ∃ (f_2 : Nat -> Int), (∀ (W : World), Loc w.heap.size [Blk.mk n 48 (arrI .u8 f 32 0 ++ ([Value.string x, .string x_1, .int .i64 x_2, .int .i64 x_3] ++ arrI .u8 f_1 16 0 ++ [Value.int .i64 x_4, .string x_5])) (wrM 2), Blk.mk n_3 48 [Value.int .u8 0, .int .u8 0, .int .u8 0, .int .u8 0, .int .u8 0, .int .u8 0, .int .u8 0, .int .u8 0, .int .u8 0, .int .u8 0, .int .u8 0, .int .u8 0, .int .u8 0, .int .u8 0, .int .u8 0, .int .u8 0, .int .u8 0, .int .u8 0, .int .u8 0, .int .u8 0, .int .u8 0, .int .u8 0, .int .u8 0, .int .u8 0, .int .u8 0, .int .u8 0, .int .u8 0, .int .u8 0, .int .u8 0, .int .u8 0, .int .u8 0, .int .u8 0, .string (ByteArray.mk #[]), .string (ByteArray.mk #[]), .int .i64 0, .int .i64 0, .int .u8 0, .int .u8 0, .int .u8 0, .int .u8 0,
 .int .u8 0, .int .u8 0, .int .u8 0, .int .u8 0, .int .u8 0, .int .u8 0, .int .u8 0, .int .u8 0, .int .u8 0, .int .u8 0, .int .u8 0, .int .u8 0, .int .i64 0, .string (ByteArray.mk #[])] 0] w'_2 W -> AtL W n_1 0 (arrI .u8 f_2 16 0)) /\ ∃ (x_7 : Int), (∀ (W : World), Loc w.heap.size [Blk.mk n 48 (arrI .u8 f 32 0 ++ ([Value.string x, .string x_1, .int .i64 x_2, .int .i64 x_3] ++ arrI .u8 f_1 16 0 ++ [Value.int .i64 x_4, .string x_5])) (wrM 2), Blk.mk n_3 48 [Value.int .u8 0, .int .u8 0, .int .u8 0, .int .u8 0, .int .u8 0, .int .u8 0, .int .u8 0, .int .u8 0, .int .u8 0, .int .u8 0, .int .u8 0, .int .u8 0, .int .u8 0, .int .u8 0, .int .u8 0, .int .u8 0, .int .u8 0, .int .u8 0, .int .u8 0, .int .u8 0, .int .u8 0, .int .u8 0, .int .u8 0, .int .u8 0, .int .u8 0, .int .u8 0, .int .u8 0, .int .u8 0, .int .u8 0, .int .u8 0, .int .u8 0, .int .u8 0,
 .string (ByteArray.mk #[]), .string (ByteArray.mk #[]), .int .i64 0, .int .i64 0, .int .u8 0, .int .u8 0, .int .u8 0, .int .u8 0, .int .u8 0, .int .u8 0, .int .u8 0, .int .u8 0, .int .u8 0, .int .u8 0, .int .u8 0, .int .u8 0, .int .u8 0, .int .u8 0, .int .u8 0, .int .u8 0, .int .i64 0, .string (ByteArray.mk #[])] 0] w'_2 W -> W.cell? (Addr.mk n_2 0 none) = some (.int .i64 x_7)) /\ ∀ (W : World), Loc w.heap.size [Blk.mk n 48 (arrI .u8 f 32 0 ++ ([Value.string x, .string x_1, .int .i64 x_2, .int .i64 x_3] ++ arrI .u8 f_1 16 0 ++ [Value.int .i64 x_4, .string x_5])) (wrM 2), Blk.mk n_3 48 [Value.int .u8 0, .int .u8 0, .int .u8 0, .int .u8 0, .int .u8 0, .int .u8 0, .int .u8 0, .int .u8 0, .int .u8 0, .int .u8 0, .int .u8 0, .int .u8 0, .int .u8 0, .int .u8 0, .int .u8 0, .int .u8 0, .int .u8 0, .int .u8 0, .int .u8 0, .int .u8 0, .int .u8 0, .int .u8 0, .int .u8 0, .int .u8 0,
 .int .u8 0, .int .u8 0, .int .u8 0, .int .u8 0, .int .u8 0, .int .u8 0, .int .u8 0, .int .u8 0, .string (ByteArray.mk #[]), .string (ByteArray.mk #[]), .int .i64 0, .int .i64 0, .int .u8 0, .int .u8 0, .int .u8 0, .int .u8 0, .int .u8 0, .int .u8 0, .int .u8 0, .int .u8 0, .int .u8 0, .int .u8 0, .int .u8 0, .int .u8 0, .int .u8 0, .int .u8 0, .int .u8 0, .int .u8 0, .int .i64 0, .string (ByteArray.mk #[])] 0] w'_2 W -> ∃ (w1 : World), UpdP Tryz.prog 96 (.map x_6) (.agg (arrI .u8 f 32 0 ++ [Value.string x]).toArray) (.agg (arrI .u8 f 32 0 ++ ([Value.string x, .string x_1, .int .i64 x_2, .int .i64 x_3] ++ arrI .u8 f_1 16 0 ++ ([Value.int .i64 x_4, .string x_5, .bool true] ++ arrI .u8 f_2 16 0 ++ [Value.int .i64 x_7]))).toArray) W w1 /\ KeptL [n, n_3] W w1 /\ ∀ (W : World), Loc w.heap.size [Blk.mk n 48 (arrI .u8 f 32 0 ++ ([Value.string x, .string x_1, .int .i64 x_2,
 .int .i64 x_3] ++ arrI .u8 f_1 16 0 ++ [Value.int .i64 x_4, .string x_5])) 0, Blk.mk n_3 48 (arrI .u8 f 32 0 ++ ([Value.string x, .string x_1, .int .i64 x_2, .int .i64 x_3] ++ arrI .u8 f_1 16 0 ++ [Value.int .i64 x_4, .string x_5])) (wrM 0)] w1 W -> R (.returned (.tuple #[.agg (arrI .u8 f 32 0 ++ ([Value.string x, .string x_1, .int .i64 x_2, .int .i64 x_3] ++ arrI .u8 f_1 16 0 ++ [Value.int .i64 x_4, .string x_5])).toArray, .int .i64 0])) W)))
theorem vc_claim (b : Nat) (s : ByteArray) (a : Nat -> Int) (now : Int) (w : World) (R : Ending -> World -> Prop) (h : VC_claim b s a now w R) : Calls Tryz.prog 39 ([Value.pointer (some { block := b, off := 0 }), .string s, .agg (arrI .u8 a 16 0).toArray, .int .i64 now] : List Value).toArray w R :=
 calls_of_exec2' (loops := []) (tails := [(10, 14)]) (joins := []) (boxes := []) (rngs := []) (c := Tryz.f39.body.getD .skip) pur1_ok Tryz.func39 (by kernel_rfl) (by kernel_rfl) h
end Go.Proofs.YtfacflbmlfbeeaaGreatDoor
namespace Go.Proofs.YtfacflbmlfbeeaaGreatDoor
open Go.RowKit Go.Sort Go.Maps
theorem Kp.qb {M : Nat -> Prop} {b mb eb : Nat} {w w' : World} (h : Kp M w w') (hm : ∀ k, M k -> QB b mb eb k) : Kp (QB b mb eb) w w' := h.mono fun _ _ e => hm _ e
theorem Kp.q0 {b mb eb : Nat} {w w' : World} (h : Kp (fun _ => False) w w') : Kp (QB b mb eb) w w' := h.mono fun _ _ e => e.elim
theorem Mq.kept {w w' : World} {b mb eb : Nat} {q : Qu} (h : Mq w b mb eb q) {M : Nat -> Prop} (hk : Kp M w w') (hm : ∀ k, M k -> QB b mb eb k) {ns : List Nat} (hn : ∀ n ∈ ns, ∃ c t f, w.heap[n]? = some (.cells c t f) /\ (t == 98) = false) : KeptL ns w w' :=
 .of_kp hk fun n hin e => by
  obtain ⟨c, t, f, hc, ht⟩ := hn n hin
  rcases hm n e with rfl | rfl | rfl
  ·rw [h.st] at hc; cases hc; exact absurd ht (by decide)
  ·obtain ⟨es, k, hb, _⟩ := h.mm.blk; rw [hb] at hc; cases hc
  ·obtain ⟨es, k, hb, _⟩ := h.me.blk; rw [hb] at hc; cases hc
theorem Mq.loc {w w6 w7 : World} {b mb eb : Nat} {q q' : Qu} (h : Mq w b mb eb q) (h6 : Mq w6 b mb eb q') (hq : q'.ms = q.ms) (k6 : Kp (QB b mb eb) w w6) {T : List Blk} (hL : Loc w.heap.size T w6 w7) : Mq w7 b mb eb q' /\ Kp (QB b mb eb) w w7 := by
 have hM : ∀ k, (∃ x ∈ T, x.m = 1 /\ x.n = k) -> w.heap.size <= k := fun k ⟨x, hx, _, e⟩ => by have := hL.ge x hx; omega
 have k7 : Kp (QB b mb eb) w w7 := k6.fresh hL.kp (fun i hi e => by have := hM i e; omega)
 have hb := block_lt h.st
 have hm := h.mm.lt
 have he := h.me.lt
 exact ⟨⟨hL.kp.blk h6.st (fun e => by have := hM _ e; omega), h6.mm.kp hL.kp (fun e => by have := hM _ e; omega), h6.me.kp hL.kp (fun e => by have := hM _ e; omega), fun g x hx => (h.row g x (by rw [<- hq]; exact hx)).kpU auC_u k7 h.nu, h.ne, h.nz⟩, k7⟩
theorem gnE_sz39 {g : ByteArray} (h : gnE g = 0) : g.size <= 80 := by
 unfold gnE at h
 split at h
 ·cases h
 ·omega
def newE (id : Nat -> Int) (g tx : ByteArray) (now : Int) : En := ⟨⟨id, g, tx, now, 0, fun _ => 0, 0, ⟨#[]⟩⟩, false, fun _ => 0, 0⟩
def subE (q : Qu) (id : Nat -> Int) (g tx : ByteArray) (now : Int) : Int := if minB now = false then 2 else if gnE g ≠ 0 then gnE g else if 65536 < tx.size then 5 else if (q.md g).l.length = 0 then 33 else if (aget q.es (idI id, g)).isSome = true then 7 else if q.room <= q.wt then 9 else 0
def subQ (q : Qu) (id : Nat -> Int) (g tx : ByteArray) (now : Int) : Qu := if subE q id g tx now = 0 then { q with es := aset q.es (idI id, g) (newE id g tx now), wt := q.wt + 1 } else q
set_option maxHeartbeats 1000000 in
theorem submit_any {w : World} {b mb eb : Nat} {q : Qu} (h : Mq w b mb eb q) (ho : q.OK) (id : Nat -> Int) (hid : BY id) (g tx : ByteArray) (now : Int) (hG : GW w) :
  Calls Tryz.prog 18 #[.pointer (some ⟨b, 0, none⟩), .agg (arrI .u8 id 32 0).toArray, .string g, .string tx, .int .i64 now] w fun e w' => e = .returned (.int .i64 (subE q id g tx now)) /\ Mq w' b mb eb (subQ q id g tx now) /\ Kp (QB b mb eb) w w' := by
 refine vc_submit b id g tx now w _ (fun n W hW => ?_)
 have kW : K0 w W := hW.kk rfl
 have c0 := hW.cells 0 rfl
 unfold subQ subE
 refine ⟨(begin_any b now W).mono fun e w1 ⟨he, k1⟩ => ⟨_, he, .of_k0 k1, bsp_intro (fun h1 => ?_) (fun h1 => ?_)⟩⟩
 ·have h1 : minB now = false := by
   cases hm : minB now with
   | false => rfl
   | true => rw [hm] at h1; simp at h1
  rw [h1]
  exact ⟨rfl, h.k0 (kW.trans k1), (kW.trans k1).q0⟩
 have h1 : minB now = true := by
  cases hm : minB now with
  | true => rfl
  | false => rw [hm] at h1; simp at h1
 rw [h1, if_neg (by decide)]
 have k01 := kW.trans k1
 refine ⟨(gcheck_any g w1 (hG.kp k01 (fun h => h))).mono fun e w2 ⟨he, k2⟩ => ⟨_, he, .of_k0 k2, bsp_intro (fun h2 => ?_) (fun h2 => ?_)⟩⟩
 ·have h2 : gnE g ≠ 0 := by simpa using h2
  rw [if_pos h2, if_neg h2]
  exact ⟨rfl, h.k0 (k01.trans k2), (k01.trans k2).q0⟩
 have h2 : gnE g = 0 := by simpa using h2
 have hgs := gnE_sz39 h2
 rw [if_neg (by omega)]
 intro n1 W3 hW3
 have k3 : K0 w W3 := hW3.k0 (k01.trans k2)
 have d0 := hW3.cells 0 rfl
 have d1 := hW3.cells 1 rfl
 have h3 := h.k0 k3
 refine ⟨fun wx => K0 W3 wx, .refl _ _, some eb, fun wx k => (h3.k0 k).cE, id, g, fun wx k => AtL_block (k.blk d0 (fun h => h)) rfl, _, _, _, _, _, _, _, _, _, _, _, _, fun wx k => (h3.k0 k).lookE hid (by omega), fun n4 w4 hn4 => ⟨hn4.kp _, WrL_block hn4.block (by show 0 + 72 <= 72; omega), fun w5 p5 => ?_⟩⟩
 have k5 : K0 W3 w5 := put_k0 (hn4.kp _) p5 hn4.ge
 have k05 := k3.trans k5
 have h5 := h.k0 k05
 refine ⟨.of_k0 k5, bsp_intro (fun h6 => ?_) (fun h6 => ?_)⟩
 ·have h6 : 65536 < tx.size := by simp at h6; omega
  rw [if_pos h6, if_neg (by decide)]
  exact ⟨rfl, h5, k05.q0⟩
 have h6 : ¬ 65536 < tx.size := by simp at h6; omega
 rw [if_neg h6]
 refine ⟨some mb, h5.cM, _, _, _, h5.lookM (by omega), bsp_intro (fun h7 => ?_) (fun h7 => bsp_intro (fun h8 => ?_) (fun h8 => ?_))⟩
 ·have h7 : (q.md g).l.length = 0 := by simpa using h7
  rw [if_pos h7, if_neg (by decide)]
  exact ⟨rfl, h5, k05.q0⟩
 ·have h7 : ¬ (q.md g).l.length = 0 := by simpa using h7
  rw [if_neg h7, if_pos h8, if_neg (by decide)]
  exact ⟨rfl, h5, k05.q0⟩
 have h7 : ¬ (q.md g).l.length = 0 := by simpa using h7
 rw [if_neg h7, if_neg (by rw [h8]; decide)]
 refine ⟨q.wt, fun W hW => (h5.k0 (hW.kk rfl)).cW, q.room, fun W hW => (h5.k0 (hW.kk rfl)).cR, bsp_intro (fun h9 => fun W hW => ?_) (fun h9 => ?_)⟩
 ·have h9 : q.room <= q.wt := by simp at h9; omega
  rw [if_pos h9, if_neg (by decide)]
  exact ⟨rfl, h5.k0 (hW.kk rfl), (k05.trans (hW.kk rfl)).q0⟩
 have h9 : ¬ q.room <= q.wt := by simp at h9; omega
 rw [if_neg h9, if_pos rfl]
 refine ⟨some eb, fun W hW => (h5.k0 (hW.kk rfl)).cE, fun W6 hW6 => ?_⟩
 have k6 : K0 w5 W6 := hW6.kk rfl
 have h66 := h5.k0 k6
 obtain ⟨w7, hu, h77, k7⟩ := h66.updE (newE id g tx now) hid (g := g) (by omega)
 have e0 := hW6.cells 0 rfl
 have e1 := hW6.cells 1 rfl
 have f0 := k7.blk e0 (fun e => by obtain ⟨es, k, hb, _⟩ := h66.me.blk; have e : _ = eb := e; rw [e, hb] at e0; cases e0)
 have f1 := k7.blk e1 (fun e => by obtain ⟨es, k, hb, _⟩ := h66.me.blk; have e : _ = eb := e; rw [e, hb] at e1; cases e1)
 refine ⟨w7, hu, h66.kept k7 (fun k e => .inr (.inr e)) (fun z hz => ?_), q.wt, h77.cW, h77.wrW, fun w8 p8 => ⟨h77.kept p8.kp (fun k e => .inl e) (fun z hz => ?_), rfl, ?_, ?_⟩⟩
 ·simp only [List.mem_cons, List.not_mem_nil, or_false] at hz
  rcases hz with rfl | rfl
  ·exact ⟨_, _, _, e0, rfl⟩
  ·exact ⟨_, _, _, e1, rfl⟩
 ·simp only [List.mem_cons, List.not_mem_nil, or_false] at hz
  rcases hz with rfl | rfl
  ·exact ⟨_, _, _, f0, rfl⟩
  ·exact ⟨_, _, _, f1, rfl⟩
 ·have hwt : 0 <= q.wt := by have := ho.wt; omega
  have hr := ho.room
  rw [wr64 (by omega) (by omega)] at p8
  exact h77.putW p8
 ·exact (((k05.trans k6).q0).trans (k7.qb (fun k e => .inr (.inr e)))).trans (p8.kp.qb (fun k e => .inl e))
def clP (g : ByteArray) (a : List Int) (now : Int) (x : En) : Bool := (decide (x.s.g = g) && x.s.st == 0) && !blk x a now
theorem clmC_any (x : En) (hx : x.OK) (g : ByteArray) (a : Nat -> Int) (ha : BY a) (now : Int) (hn : 0 <= now /\ now <= 105190559) (b1 b2 b3 : Nat) (w : World) (h1 : w.cell? ⟨b1, 0, none⟩ = some (.string g)) (h2 : AtL w b2 0 (arrI .u8 a 16 0)) (h3 : w.cell? ⟨b3, 0, none⟩ = some (.int .i64 now)) :
  Calls Tryz.prog 76 #[enV x, .pointer (some ⟨b1, 0, none⟩), .pointer (some ⟨b2, 0, none⟩), .pointer (some ⟨b3, 0, none⟩)] w fun e w' => e = .returned (.bool (clP g (auI a) now x)) /\ K0 w w' := by
 refine vc_clmC x.s.id x.s.mo x.s.g x.s.tx x.s.r x.s.st x.s.de x.s.rs x.le x.ho x.si b1 b2 b3 w _ (fun n => ⟨g, fun W hW => (hW.kk rfl : K0 w W).cell' h1 (fun h => h), x.s.st, gimp_intro fun _ W hW => cell_at (hW.cells 0 rfl) rfl, a, gimp_intro fun _ W hW => h2.k0 (hW.kk rfl), now, gimp_intro fun _ W hW => (hW.kk rfl : K0 w W).cell' h3 (fun h => h), fun W hW => ?_⟩)
 have kW : K0 w W := hW.kk rfl
 unfold clP
 rw [<- str_beq]
 refine bsp_intro (fun hb => ?_) (fun hb => ?_)
 ·rw [hb]
  have hc := blocked_any x a now hx ha hn W
  exact ⟨hc.mono fun e w1 ⟨he, k1⟩ => ⟨_, he, .of_k0 k1, rfl, kW.trans k1⟩⟩
 ·rw [hb]
  exact ⟨.refl _ _, rfl, kW⟩
def isSel (q : Qu) (g : ByteArray) (a : List Int) (now : Int) : List Sb := selE (clP g a now) q.es
def clmE (q : Qu) (g : ByteArray) (a : Nat -> Int) (now : Int) : Int := if minB now = false then 2 else if isMB (q.md g) a = false then 20 else if (isSel q g (auI a) now).length = 0 then 8 else 0
theorem minB_iff {now : Int} : minB now = true ↔ 0 <= now /\ now <= 105190559 := by unfold minB; simp
set_option maxHeartbeats 1000000 in
set_option maxRecDepth 100000 in
theorem claim_any {w : World} {b mb eb : Nat} {q : Qu} (h : Mq w b mb eb q) (ho : q.OK) (hln : q.es.length <= 1000000) (g : ByteArray) (hg : g.size <= 1073741824) (a : Nat -> Int) (ha : BY a) (now : Int) (hG : GW w) :
  Calls Tryz.prog 39 #[.pointer (some ⟨b, 0, none⟩), .string g, .agg (arrI .u8 a 16 0).toArray, .int .i64 now] w fun e w' =>
   (clmE q g a now ≠ 0 /\ e = .returned (.tuple #[sbV sbz, .int .i64 (clmE q g a now)]) /\ K0 w w') \/
   (clmE q g a now = 0 /\ ∃ x : Sb, x ∈ isSel q g (auI a) now /\ (∀ y ∈ isSel q g (auI a) now, ¬ cfM y x < 0) /\ e = .returned (.tuple #[sbV x, .int .i64 0]) /\ Mq w' b mb eb { q with es := aset q.es x.ky ⟨x, true, a, now⟩ } /\ Kp (QB b mb eb) w w') := by
 refine vc_claim b g a now w _ (fun n n1 n2 n3 W hW => ?_)
 have kW : K0 w W := hW.kk rfl
 have c0 := hW.cells 0 rfl
 have c1 := hW.cells 1 rfl
 have c2 := hW.cells 2 rfl
 have c3 := hW.cells 3 rfl
 unfold clmE
 refine ⟨(begin_any b now W).mono fun e w1 ⟨he, k1⟩ => ⟨_, he, .of_k0 k1, bsp_intro (fun h1 W2 hW2 => ?_) (fun h1 => ?_)⟩⟩
 ·have h1 : minB now = false := by
   cases hm : minB now with
   | false => rfl
   | true => rw [hm] at h1; simp at h1
  rw [h1, if_pos rfl]
  exact .inl ⟨by decide, rfl, hW2.k0 (kW.trans k1)⟩
 have h1 : minB now = true := by
  cases hm : minB now with
  | true => rfl
  | false => rw [hm] at h1; simp at h1
 have hnow := minB_iff.1 h1
 rw [h1, if_neg (by decide)]
 have k01 := kW.trans k1
 refine ⟨(ismod_any (h.k0 k01) ho g hg a ha).mono fun e w2 ⟨he, k2⟩ => ⟨_, he, .of_k0 k2, bsp_intro (fun h2 W3 hW3 => ?_) (fun h2 => ?_)⟩⟩
 ·have h2 : isMB (q.md g) a = false := by simpa using h2
  rw [if_pos h2]
  exact .inl ⟨by decide, rfl, hW3.k0 (k01.trans k2)⟩
 have h2 : isMB (q.md g) a = true := by simpa using h2
 rw [h2, if_neg (by decide)]
 have k02 := k01.trans k2
 have kW2 := k1.trans k2
 have hm := ho.mem h.dis
 have hF : ∀ x : En, x.OK -> ∀ w1, K0 w2 w1 -> Calls Tryz.prog 76 (appA #[] [enV x] #[.pointer (some ⟨n, 0, none⟩), .pointer (some ⟨n1, 0, none⟩), .pointer (some ⟨n2, 0, none⟩)]) w1 fun e w3 => e = .returned (.bool (clP g (auI a) now x)) /\ K0 w1 w3 := fun x hx w1 k => by
  have h3 := clmC_any x hx g a ha now hnow n n1 n2 w1 (cell_at ((kW2.trans k).blk c3 (fun h => h)) rfl) (AtL_block ((kW2.trans k).blk c2 (fun h => h)) rfl) (cell_at ((kW2.trans k).blk c1 (fun h => h)) rfl)
  generalize enV x = v at h3 ⊢
  exact h3
 refine ⟨(selected_any (h.k0 k02) hm hln 76 #[] #[.pointer (some ⟨n, 0, none⟩), .pointer (some ⟨n1, 0, none⟩), .pointer (some ⟨n2, 0, none⟩)] (clP g (auI a) now) (by kernel_rfl) hF).mono fun e w3 ⟨⟨p, c, l, he, hp, hown⟩, k3⟩ => ⟨_, _, _, he, .of_k0 k3, bsp_intro (fun h3 W4 hW4 => ?_) (fun h3 => ?_)⟩⟩
 ·have h3 : l.length = 0 := by simpa using h3
  have h3' : (isSel q g (auI a) now).length = 0 := hp.length_eq.symm.trans h3
  rw [if_pos h3']
  exact .inl ⟨by decide, rfl, hW4.k0 (k02.trans k3)⟩
 have h3 : ¬ l.length = 0 := by simpa using h3
 have h3' : ¬ (isSel q g (auI a) now).length = 0 := fun e => h3 (hp.length_eq.trans e)
 rw [if_neg h3']
 have k03 := k02.trans k3
 have hlen : l.length <= q.es.length := by rw [hp.length_eq]; exact selE_le _ _
 have hgz : ∀ x ∈ l, x.g.size <= 1073741824 := fun x hx => by
  obtain ⟨k, en, h4, _, rfl⟩ := selE_mem (hp.subset hx)
  exact (hm k en h4).1.s.g
 refine ⟨(minf_any l p c w3 (RowA.own hown sbC_length (by decide)) (by omega) hgz (by omega) (hG.kp k03 (fun h => h))).mono fun e w4 ⟨⟨x, he, hx, hmin⟩, k4⟩ => ⟨x.id, x.g, x.tx, x.r, x.st, x.mo, x.de, x.rs, he, .of_k0 k4, fun n5 => ?_⟩⟩
 have k04 := k03.trans k4
 have kW4 := (kW2.trans k3).trans k4
 obtain ⟨kx, en, hmx, _, hen⟩ := selE_mem (hp.subset hx)
 have hxo : x.OK := by rw [<- hen]; exact (hm kx en hmx).1.s
 refine ⟨some eb, fun W hW => ((h.k0 k04).k0 (hW.kk rfl)).cE, a, fun W hW => AtL_block ((kW4.trans (hW.kk rfl)).blk c2 (fun h => h)) rfl, now, fun W hW => cell_at ((kW4.trans (hW.kk rfl)).blk c1 (fun h => h)) rfl, fun W5 hW5 => ?_⟩
 have k5 : K0 w4 W5 := hW5.kk rfl
 have h5 := (h.k0 k04).k0 k5
 have d0 := hW5.cells 0 rfl
 have d1 := hW5.cells 1 rfl
 obtain ⟨w6, hu, h6, k6⟩ := h5.updE ⟨x, true, a, now⟩ hxo.id (g := x.g) hxo.g
 refine ⟨w6, hu, h5.kept k6 (fun k e => .inr (.inr e)) (fun z hz => ?_), fun W7 hW7 => ?_⟩
 ·simp only [List.mem_cons, List.not_mem_nil, or_false] at hz
  rcases hz with rfl | rfl
  ·exact ⟨_, _, _, d0, rfl⟩
  ·exact ⟨_, _, _, d1, rfl⟩
 have hkq : Kp (QB b mb eb) w w6 := ((k04.trans k5).q0).trans (k6.qb (fun k e => .inr (.inr e)))
 obtain ⟨h7, k7⟩ := h.loc h6 rfl hkq hW7
 exact .inr ⟨rfl, x, hp.subset hx, fun y hy => hmin y (hp.symm.subset hy), rfl, h7, k7⟩
end Go.Proofs.YtfacflbmlfbeeaaGreatDoor
namespace Go.Proofs.YtfacflbmlfbeeaaGreatDoor
open Go.RowKit Go.Sort Go.Maps
theorem u8_inj39 {x y : Int} (hx : 0 <= x /\ x <= 255) (hy : 0 <= y /\ y <= 255) (h : x.toNat.toUInt8 = y.toNat.toUInt8) : x = y := by
 have h1 : x.toNat.toUInt8.toNat = y.toNat.toUInt8.toNat := by rw [h]
 rw [UInt8.toNat_ofNat', UInt8.toNat_ofNat'] at h1
 omega
theorem bytes_inj : ∀ (l m : List Int), (∀ x ∈ l, 0 <= x /\ x <= 255) -> (∀ x ∈ m, 0 <= x /\ x <= 255) -> l.map (fun x => x.toNat.toUInt8) = m.map (fun x => x.toNat.toUInt8) -> l = m
 | [], [], _, _, _ => rfl
 | [], _ :: _, _, _, h => by simp at h
 | _ :: _, [], _, _, h => by simp at h
 | x :: l, y :: m, hl, hm, h => by
  simp only [List.map_cons, List.cons.injEq] at h
  rw [u8_inj39 (hl x (by simp)) (hm y (by simp)) h.1, bytes_inj l m (fun z hz => hl z (by simp [hz])) (fun z hz => hm z (by simp [hz])) h.2]
theorem auB_inj {f g : Nat -> Int} (hf : BY f) (hg : BY g) (h : auB f = auB g) : auI f = auI g := bytes_inj _ _ (auI_bd hf) (auI_bd hg) h
theorem idB_inj39 {f g : Nat -> Int} (hf : BY f) (hg : BY g) (h : idB f = idB g) : idI f = idI g := bytes_inj _ _ (idI_bd hf) (idI_bd hg) h
theorem sorted_adj {l : List (Nat -> Int)} (hs : l.Pairwise fun x y => ¬ cfA y x < 0) (hb : ∀ m ∈ l, BY m) : adjI l ↔ ¬ (l.map auI).Nodup := by
 constructor
 ·rintro ⟨k, x, y, h1, h2, h3⟩ hn
  obtain ⟨hk1, e1⟩ := List.getElem?_eq_some_iff.1 h1
  obtain ⟨hk2, e2⟩ := List.getElem?_eq_some_iff.1 h2
  have := List.pairwise_iff_getElem.1 hn k (k + 1) (by simpa using hk1) (by simpa using hk2) (by omega)
  simp only [List.getElem_map, e1, e2] at this
  exact this h3
 ·intro hn
  refine Classical.byContradiction fun hadj => hn ?_
  have key : ∀ d i, (h : i + d + 1 < l.length) -> cfA (l[i]'(by omega)) (l[i + d + 1]'h) < 0 := by
   intro d
   induction d with
   | zero =>
    intro i h
    have h1 := List.pairwise_iff_getElem.1 hs i (i + 1) (by omega) (by omega) (by omega)
    have h2 := cfA_ord.anti (l[i]'(by omega)) (l[i + 1]'(by omega))
    rcases Int.lt_or_eq_of_le (show cfA (l[i]'(by omega)) (l[i + 1]'(by omega)) <= 0 by omega) with h3 | h3
    ·exact h3
    ·exact absurd ⟨i, _, _, List.getElem?_eq_getElem (by omega), List.getElem?_eq_getElem (by omega), auB_inj (hb _ (List.getElem_mem _)) (hb _ (List.getElem_mem _)) (cb_zero _ _ h3)⟩ hadj
   | succ d ih =>
    intro i h
    have h1 := ih i (by omega)
    have h2 := List.pairwise_iff_getElem.1 hs (i + d + 1) (i + d + 2) (by omega) (by omega) (by omega)
    have h3 := cfA_ord.anti (l[i + d + 1]'(by omega)) (l[i + d + 2]'(by omega))
    rcases Int.lt_or_eq_of_le (show cfA (l[i + d + 1]'(by omega)) (l[i + d + 2]'(by omega)) <= 0 by omega) with h4 | h4
    ·exact cfA_ord.tlt _ _ _ h1 h4
    ·exact cfA_ord.le _ _ _ h1 h4
  rw [List.Nodup, List.pairwise_iff_getElem]
  intro i j hi hj hij
  simp only [List.getElem_map]
  simp only [List.length_map] at hi hj
  obtain ⟨d, rfl⟩ : ∃ d, j = i + d + 1 := ⟨j - i - 1, by omega⟩
  have h1 := key d i hj
  intro e
  have h2 : cfA (l[i]'hi) (l[i + d + 1]'hj) = 0 := by
   unfold cfA auB
   rw [e]; exact cb_self _
  omega
theorem avalues_any (p : Option Addr) (n c : Nat) (w : World) : Calls Tryz.prog 72 #[.slice p n c] w fun e w' => (∃ Bs, e = .returned (.func (.func 105) #[] #[.pointer (some ⟨Bs, 0, none⟩)]) /\ w'.cell? ⟨Bs, 0, none⟩ = some (.slice p n c) /\ Bs < w'.heap.size) /\ K0 w w' :=
 vc_avalues p n c w _ (fun n1 _ hW => ⟨⟨n1, rfl, cell_at (hW.cells 0 rfl) rfl, block_lt (hW.cells 0 rfl)⟩, hW.kk rfl⟩)
noncomputable def setE (g : ByteArray) (l : List (Nat -> Int)) : Int := open Classical in if gnE g ≠ 0 then gnE g else if 8 < l.length then 9 else if (l.map auI).Nodup then 0 else 7
def setR (q : Qu) (g : ByteArray) (l : List (Nat -> Int)) (q' : Qu) : Prop :=
 (setE g l ≠ 0 /\ q' = q) \/ (setE g l = 0 /\ l = [] /\ q' = { q with ms := adel q.ms g }) \/ (setE g l = 0 /\ l ≠ [] /\ ∃ x : MX, x.l.Perm l /\ (x.l.Pairwise fun x y => ¬ cfA y x < 0) /\ x.l.length <= x.c /\ q' = { q with ms := aset q.ms g x })
set_option maxHeartbeats 1000000 in
theorem setMods_any {w : World} {b mb eb : Nat} {q : Qu} (h : Mq w b mb eb q) (g : ByteArray) (l : List (Nat -> Int)) (p : Option Addr) (c : Nat) (hR : RowA auC 16 w p l) (hp : ∀ g o, p = some ⟨g, o, none⟩ -> g < w.heap.size) (hb : ∀ m ∈ l, BY m) (hG : GW w) :
  Calls Tryz.prog 38 #[.pointer (some ⟨b, 0, none⟩), .string g, .slice p l.length c] w fun e w' => e = .returned (.int .i64 (setE g l)) /\ (∃ q', setR q g l q' /\ Mq w' b mb eb q') /\ Kp (QB b mb eb) w w' := by
 refine vc_setMods b g p l.length c w _ ⟨(gcheck_any g w hG).mono fun e w1 ⟨he, k1⟩ => ⟨_, he, .of_k0 k1, bsp_intro (fun h1 => ?_) (fun h1 => bsp_intro (fun h2 => ?_) (fun h2 => ?_))⟩⟩
 ·have h1 : gnE g ≠ 0 := by simpa using h1
  have hE : setE g l = gnE g := by unfold setE; rw [if_pos h1]
  exact ⟨by rw [hE], ⟨q, .inl ⟨by rw [hE]; exact h1, rfl⟩, h.k0 k1⟩, k1.q0⟩
 ·have h1 : gnE g = 0 := by simpa using h1
  have h2 : 8 < l.length := by simp at h2; omega
  have hE : setE g l = 9 := by unfold setE; rw [if_neg (by omega), if_pos h2]
  exact ⟨by rw [hE], ⟨q, .inl ⟨by rw [hE]; decide, rfl⟩, h.k0 k1⟩, k1.q0⟩
 have h1 : gnE g = 0 := by simpa using h1
 have h2 : ¬ 8 < l.length := by simp at h2; omega
 have hgs := gnE_sz39 h1
 refine ⟨(avalues_any p l.length c w1).mono fun e w2 ⟨⟨Bs, he, hc, hlt⟩, k2⟩ => ⟨_, he, .of_k0 k2, ?_⟩⟩
 have k02 := k1.trans k2
 refine ⟨(asorted_any l p c Bs w2 hc hlt (hR.k0 k02) (fun g o e => Nat.lt_of_lt_of_le (hp g o e) k02.size) (by omega)).mono fun e w3 ⟨⟨p', c', l', he, hpm, hs, ho⟩, k3⟩ => ⟨_, _, _, he, .of_k0 k3, ?_⟩⟩
 have k03 := k02.trans k3
 have hl' := hpm.length_eq
 have hb' : ∀ m ∈ l', BY m := fun m hm => hb m (hpm.subset hm)
 refine ⟨(aclone_any l' p' c' w3 (RowA.own ho auC_length (by decide)) (by omega)).mono fun e w4 hcl => ?_⟩
 obtain ⟨⟨p4, c4, he, ho4⟩, k4⟩ := hcl
 refine ⟨_, _, _, he, .of_k0 k4, ?_⟩
 refine ⟨(acompact_any l' p4 c4 w4 ho4 hb' (by omega)).mono fun e w5 ⟨⟨m, he, hm⟩, k5⟩ => ⟨_, _, _, he, .of_kp k5 (fun z hz => by cases hz), ?_⟩⟩
 have k35 : K0 w3 w5 := k4.fresh k5 (fun i hi e => by have := own_ge ho4 e; omega)
 have k05 := k03.trans k35
 have hadj := sorted_adj hs hb'
 have hnd : (l'.map auI).Nodup ↔ (l.map auI).Nodup := (hpm.map auI).nodup_iff
 refine bsp_intro (fun h3 => ?_) (fun h3 => ?_)
 ·have h3 : m < l.length := by simp at h3; omega
  have hE : setE g l = 7 := by
   unfold setE
   rw [if_neg (by omega), if_neg h2, if_neg]
   intro hn
   rcases hm with ⟨rfl, _⟩ | ⟨_, ha⟩
   ·omega
   ·exact (hadj.1 ha) (hnd.2 hn)
  exact ⟨by rw [hE], ⟨q, .inl ⟨by rw [hE]; decide, rfl⟩, h.k0 k05⟩, k05.q0⟩
 have h3 : ¬ m < l.length := by simp at h3; omega
 have hE : setE g l = 0 := by
  unfold setE
  rw [if_neg (by omega), if_neg h2, if_pos]
  rcases hm with ⟨_, ha⟩ | ⟨hlt, _⟩
  ·exact hnd.1 (Classical.byContradiction fun hn => ha (hadj.2 hn))
  ·omega
 have h5 := h.k0 k05
 refine bsp_intro (fun h4 => ?_) (fun h4 => ?_)
 ·have h4 : l'.length = 0 := by simpa using h4
  obtain ⟨w6, hbl, h6, k6⟩ := h5.delM (g := g) (by omega)
  refine ⟨some mb, h5.cM, w6, hbl, .of_kp k6 (fun z hz => by cases hz), by rw [hE], ⟨_, .inr (.inl ⟨hE, List.eq_nil_of_length_eq_zero (by omega), rfl⟩), h6⟩, k05.q0.trans (k6.qb (fun k e => .inr (.inl e)))⟩
 ·have h4 : ¬ l'.length = 0 := by simpa using h4
  have hR' : RowA auC 16 w5 p' l' := (RowA.own ho auC_length (by decide)).k0 k35
  obtain ⟨w6, hu, h6, k6⟩ := h5.updM ⟨l', p', c'⟩ hR' (g := g) (by omega)
  refine ⟨some mb, h5.cM, bsp_intro (fun h => by cases h) (fun _ => ⟨some mb, h5.cM, w6, hu, .of_kp k6 (fun z hz => by cases hz), by rw [hE], ⟨_, .inr (.inr ⟨hE, fun e => h4 (by rw [hl', e]; rfl), ⟨l', p', c'⟩, hpm, hs, own_le ho, rfl⟩), h6⟩, k05.q0.trans (k6.qb (fun k e => .inr (.inl e)))⟩)⟩
end Go.Proofs.YtfacflbmlfbeeaaGreatDoor
namespace Go.Proofs.YtfacflbmlfbeeaaGreatDoor
set_option maxRecDepth 100000
set_option linter.unusedVariables false
def VC_decide (b : Nat) (i : Nat -> Int) (s : ByteArray) (a : Nat -> Int) (now : Int) (st : Int) (rs : ByteArray) (w : World) (R : Ending -> World -> Prop) : Prop := ∀ (n n_1 : Nat) (W : World), Loc w.heap.size [Blk.mk n_1 45 (arrI .u8 a 16 0) 2, Blk.mk n 32 (arrI .u8 i 32 0) 2] w W -> CallsS Tryz.prog 75 #[.pointer (some (Addr.mk b 0 none)), .string s, .agg (arrI .u8 a 16 0).toArray] W fun (e : Ending) (w' : World) => ∃ (x : Bool), e = .returned (.bool x) /\ KeptL [n_1, n] W w' /\ bsp (!x) (R (.returned (.int .i64 20)) w') (∀ (W : World), Loc w.heap.size [Blk.mk n_1 45 (arrI .u8 a 16 0) 0, Blk.mk n 32 (arrI .u8 i 32 0) 0] w' W -> ∃ (S : World -> Prop), S W /\ ∃ (x : Option Nat), (∀ (w' : World), S w' -> w'.cell? (Addr.mk b (0 + 4) none) = some (.map x)) /\ ∃ (f : Nat -> Int), (∀ (w' : World), S w' -> AtL w' n 0 (arrI .u8 f 32 0)) /\ ∃ (f_1 : Nat -> Int) (x_1 : ByteArray),
 ∃ (x_2 : ByteArray) (x_3 : Int), ∃ (x_4 : Int) (f_2 : Nat -> Int), ∃ (x_5 : Int) (x_6 : ByteArray), ∃ (x_7 : Bool) (f_3 : Nat -> Int), ∃ (x_8 : Int) (b_1 : Bool), (∀ (w' : World), S w' -> LookP Tryz.prog 96 (.map x) (.agg (arrI .u8 f 32 0 ++ [Value.string s]).toArray) true (.tuple #[.agg (arrI .u8 f_1 32 0 ++ ([Value.string x_1, .string x_2, .int .i64 x_3, .int .i64 x_4] ++ arrI .u8 f_2 16 0 ++ ([Value.int .i64 x_5, .string x_6, .bool x_7] ++ arrI .u8 f_3 16 0 ++ [Value.int .i64 x_8]))).toArray, .bool b_1]) w') /\ ∀ (n_2 : Nat) (w1 : World), NewB W (Obj.cells #[.int .u8 0, .int .u8 0, .int .u8 0, .int .u8 0, .int .u8 0, .int .u8 0, .int .u8 0, .int .u8 0, .int .u8 0, .int .u8 0, .int .u8 0, .int .u8 0, .int .u8 0, .int .u8 0, .int .u8 0, .int .u8 0, .int .u8 0, .int .u8 0, .int .u8 0, .int .u8 0, .int .u8 0, .int .u8 0, .int .u8 0, .int .u8 0,
 .int .u8 0, .int .u8 0, .int .u8 0, .int .u8 0, .int .u8 0, .int .u8 0, .int .u8 0, .int .u8 0, .string (ByteArray.mk #[]), .string (ByteArray.mk #[]), .int .i64 0, .int .i64 0, .int .u8 0, .int .u8 0, .int .u8 0, .int .u8 0, .int .u8 0, .int .u8 0, .int .u8 0, .int .u8 0, .int .u8 0, .int .u8 0, .int .u8 0, .int .u8 0, .int .u8 0, .int .u8 0, .int .u8 0, .int .u8 0, .int .i64 0, .string (ByteArray.mk #[]), .bool false, .int .u8 0, .int .u8 0, .int .u8 0, .int .u8 0, .int .u8 0, .int .u8 0, .int .u8 0, .int .u8 0, .int .u8 0, .int .u8 0, .int .u8 0, .int .u8 0, .int .u8 0, .int .u8 0, .int .u8 0, .int .u8 0, .int .i64 0] 107) n_2 w1 -> S w1 /\ WrL w1 n_2 0 72 /\ ∀ (w1_1 : World), PutB w1 n_2 0 (arrI .u8 f_1 32 0 ++ ([Value.string x_1,
 .string x_2, .int .i64 x_3, .int .i64 x_4] ++ arrI .u8 f_2 16 0 ++ ([Value.int .i64 x_5, .string x_6, .bool x_7] ++ arrI .u8 f_3 16 0 ++ [Value.int .i64 x_8]))) w1_1 -> KeptL [n_1, n] W w1_1 /\ bsp (!b_1) (R (.returned (.int .i64 8)) w1_1) (∃ (x : Int), w1_1.cell? (Addr.mk n_2 (0 + 35) none) = some (.int .i64 x) /\ bsp (x != 0) (R (.returned (.int .i64 10)) w1_1) (∃ (f : Nat -> Int) (x : ByteArray), ∃ (x_9 : ByteArray) (x_10 : Int), ∃ (x_11 : Int) (f_4 : Nat -> Int), ∃ (x_12 : Int) (x_13 : ByteArray), ∃ (x_14 : Bool) (f_5 : Nat -> Int) (x_15 : Int), AtL w1_1 n_2 0 (arrI .u8 f 32 0 ++ ([Value.string x, .string x_9, .int .i64 x_10, .int .i64 x_11] ++ arrI .u8 f_4 16 0 ++ ([Value.int .i64 x_12, .string x_13, .bool x_14] ++ arrI .u8 f_5 16 0 ++ [Value.int .i64 x_15]))) /\ CallsS Tryz.prog 77 #[.agg (arrI .u8 f 32 0 ++ ([Value.string x, .string x_9, .int .i64 x_10,
 .int .i64 x_11] ++ arrI .u8 f_4 16 0 ++ ([Value.int .i64 x_12, .string x_13, .bool x_14] ++ arrI .u8 f_5 16 0 ++ [Value.int .i64 x_15]))).toArray, .agg (arrI .u8 a 16 0).toArray, .int .i64 now] w1_1 fun (e : Ending) (w' : World) => ∃ (x : Bool), e = .returned (.bool x) /\ KeptL [n_1, n] w1_1 w' /\ bsp x (R (.returned (.int .i64 25)) w') (∃ (f : Nat -> Int) (x : ByteArray), ∃ (x_16 : ByteArray) (x_17 : Int), ∃ (x_18 : Int) (f_6 : Nat -> Int), ∃ (x_19 : Int) (x_20 : ByteArray), AtL w' n_2 0 (arrI .u8 f 32 0 ++ ([Value.string x, .string x_16, .int .i64 x_17, .int .i64 x_18] ++ arrI .u8 f_6 16 0 ++ [Value.int .i64 x_19, .string x_20])) /\ CallsS Tryz.prog 70 #[.pointer (some (Addr.mk b 0 none)), .agg (arrI .u8 f 32 0 ++ ([Value.string x, .string x_16, .int .i64 x_17, .int .i64 x_18] ++ arrI .u8 f_6 16 0 ++ [Value.int .i64 x_19, .string x_20])).toArray, .agg
 (arrI .u8 a 16 0).toArray, .int .i64 now, .int .i64 st, .string rs] w' fun (e : Ending) (w'_1 : World) => ∃ (f : Nat -> Int) (x : ByteArray), ∃ (x_21 : ByteArray) (x_22 : Int), ∃ (x_23 : Int) (f_7 : Nat -> Int), ∃ (x_24 : Int) (x_25 : ByteArray), e = .returned (.agg (arrI .u8 f 32 0 ++ ([Value.string x, .string x_21, .int .i64 x_22, .int .i64 x_23] ++ arrI .u8 f_7 16 0 ++ [Value.int .i64 x_24, .string x_25])).toArray) /\ KeptL [n_1, n] w' w'_1 /\ R (.returned (.int .i64 0)) w'_1))))
theorem vc_decide (b : Nat) (i : Nat -> Int) (s : ByteArray) (a : Nat -> Int) (now : Int) (st : Int) (rs : ByteArray) (w : World) (R : Ending -> World -> Prop) (h : VC_decide b i s a now st rs w R) : Calls Tryz.prog 50 ([Value.pointer (some { block := b, off := 0 }), .agg (arrI .u8 i 32 0).toArray, .string s, .agg (arrI .u8 a 16 0).toArray, .int .i64 now, .int .i64 st, .string rs] : List Value).toArray w R :=
 calls_of_exec2' (loops := []) (tails := [(3, 11)]) (joins := []) (boxes := []) (rngs := []) (c := Tryz.f50.body.getD .skip) pur1_ok Tryz.func50 (by kernel_rfl) (by kernel_rfl) h
def VC_finish (b : Nat) (id : Nat -> Int) (mo : Nat -> Int) (g : ByteArray) (t : ByteArray) (r : Int) (st : Int) (de : Int) (rs : ByteArray) (a : Nat -> Int) (now : Int) (sn : Int) (rn : ByteArray) (w : World) (R : Ending -> World -> Prop) : Prop := ∀ (n n_1 n_2 : Nat) (W : World), Loc w.heap.size [Blk.mk n_2 48 [Value.int .u8 0, .int .u8 0, .int .u8 0, .int .u8 0, .int .u8 0, .int .u8 0, .int .u8 0, .int .u8 0, .int .u8 0, .int .u8 0, .int .u8 0, .int .u8 0, .int .u8 0, .int .u8 0, .int .u8 0, .int .u8 0, .int .u8 0, .int .u8 0, .int .u8 0, .int .u8 0, .int .u8 0, .int .u8 0, .int .u8 0, .int .u8 0, .int .u8 0, .int .u8 0, .int .u8 0, .int .u8 0, .int .u8 0, .int .u8 0, .int .u8 0, .int .u8 0, .string (ByteArray.mk #[]), .string (ByteArray.mk #[]), .int .i64 0, .int .i64 0, .int .u8 0, .int .u8 0, .int .u8 0, .int .u8 0, .int .u8 0, .int .u8 0, .int .u8 0,
 .int .u8 0, .int .u8 0, .int .u8 0, .int .u8 0, .int .u8 0, .int .u8 0, .int .u8 0, .int .u8 0, .int .u8 0, .int .i64 0, .string (ByteArray.mk #[])] 2, Blk.mk n_1 45 (arrI .u8 a 16 0) 2, Blk.mk n 48 (arrI .u8 id 32 0 ++ ([Value.string g, .string t, .int .i64 r, .int .i64 st] ++ arrI .u8 mo 16 0 ++ [Value.int .i64 de, .string rs])) 2] w W -> ∃ (S : World -> Prop), S W /\ ∃ (f : Nat -> Int), (∀ (w' : World), S w' -> AtL w' n_1 0 (arrI .u8 f 16 0)) /\ ((∃ (u : Value), W.cell? (Addr.mk n (0 + 35) none) = some u) /\ W.frozen? (Addr.mk n (0 + 35) none) = false) /\ ∀ (w1 : World), PutB W n (0 + 35) [Value.int .i64 sn] w1 -> S w1 /\ WrL w1 n (0 + 36) 16 /\ ∀ (w1_1 : World), PutB w1 n (0 + 36) (arrI .u8 f 16 0) w1_1 -> ((∃ (u : Value), w1_1.cell? (Addr.mk n (0 + 52) none) = some u) /\ w1_1.frozen? (Addr.mk n (0 + 52) none) = false) /\ ∀ (w1 : World),
 PutB w1_1 n (0 + 52) [Value.int .i64 now] w1 -> ((∃ (u : Value), w1.cell? (Addr.mk n (0 + 53) none) = some u) /\ w1.frozen? (Addr.mk n (0 + 53) none) = false) /\ ∀ (w1_2 : World), PutB w1 n (0 + 53) [Value.string rn] w1_2 -> KeptL [n_2, n_1] W w1_2 /\ ∃ (x : Option Nat), (∀ (W : World), Loc w.heap.size [Blk.mk n_2 48 [Value.int .u8 0, .int .u8 0, .int .u8 0, .int .u8 0, .int .u8 0, .int .u8 0, .int .u8 0, .int .u8 0, .int .u8 0, .int .u8 0, .int .u8 0, .int .u8 0, .int .u8 0, .int .u8 0, .int .u8 0, .int .u8 0, .int .u8 0, .int .u8 0, .int .u8 0, .int .u8 0, .int .u8 0, .int .u8 0, .int .u8 0, .int .u8 0, .int .u8 0, .int .u8 0, .int .u8 0, .int .u8 0, .int .u8 0, .int .u8 0, .int .u8 0, .int .u8 0, .string (ByteArray.mk #[]), .string (ByteArray.mk #[]), .int .i64 0, .int .i64 0, .int .u8 0, .int .u8 0, .int .u8 0, .int .u8 0, .int .u8 0, .int .u8 0, .int .u8 0, .int .u8 0, .int .u8 0,
 .int .u8 0, .int .u8 0, .int .u8 0, .int .u8 0, .int .u8 0, .int .u8 0, .int .u8 0, .int .i64 0, .string (ByteArray.mk #[])] 0, Blk.mk n_1 45 (arrI .u8 a 16 0) 0] w1_2 W -> W.cell? (Addr.mk b (0 + 4) none) = some (.map x)) /\ ∃ (f : Nat -> Int), (∀ (W : World), Loc w.heap.size [Blk.mk n_2 48 [Value.int .u8 0, .int .u8 0, .int .u8 0, .int .u8 0, .int .u8 0, .int .u8 0, .int .u8 0, .int .u8 0, .int .u8 0, .int .u8 0, .int .u8 0, .int .u8 0, .int .u8 0, .int .u8 0, .int .u8 0, .int .u8 0, .int .u8 0, .int .u8 0, .int .u8 0, .int .u8 0, .int .u8 0, .int .u8 0, .int .u8 0, .int .u8 0, .int .u8 0, .int .u8 0, .int .u8 0, .int .u8 0, .int .u8 0, .int .u8 0, .int .u8 0, .int .u8 0, .string (ByteArray.mk #[]), .string (ByteArray.mk #[]), .int .i64 0, .int .i64 0, .int .u8 0, .int .u8 0, .int .u8 0, .int .u8 0, .int .u8 0, .int .u8 0, .int .u8 0, .int .u8 0, .int .u8 0,
 .int .u8 0, .int .u8 0, .int .u8 0, .int .u8 0, .int .u8 0, .int .u8 0, .int .u8 0, .int .i64 0, .string (ByteArray.mk #[])] 0, Blk.mk n_1 45 (arrI .u8 a 16 0) 0] w1_2 W -> AtL W n 0 (arrI .u8 f 32 0)) /\ ∃ (x_1 : ByteArray), (∀ (W : World), Loc w.heap.size [Blk.mk n_2 48 [Value.int .u8 0, .int .u8 0, .int .u8 0, .int .u8 0, .int .u8 0, .int .u8 0, .int .u8 0, .int .u8 0, .int .u8 0, .int .u8 0, .int .u8 0, .int .u8 0, .int .u8 0, .int .u8 0, .int .u8 0, .int .u8 0, .int .u8 0, .int .u8 0, .int .u8 0, .int .u8 0, .int .u8 0, .int .u8 0, .int .u8 0, .int .u8 0, .int .u8 0, .int .u8 0, .int .u8 0, .int .u8 0, .int .u8 0, .int .u8 0, .int .u8 0, .int .u8 0, .string (ByteArray.mk #[]), .string (ByteArray.mk #[]), .int .i64 0, .int .i64 0, .int .u8 0, .int .u8 0, .int .u8 0, .int .u8 0, .int .u8 0, .int .u8 0, .int .u8 0, .int .u8 0, .int .u8 0, .int .u8 0, .int .u8 0, .int .u8 0,
 .int .u8 0, .int .u8 0, .int .u8 0, .int .u8 0, .int .i64 0, .string (ByteArray.mk #[])] 0, Blk.mk n_1 45 (arrI .u8 a 16 0) 0] w1_2 W -> W.cell? (Addr.mk n (0 + 32) none) = some (.string x_1)) /\ ∃ (f_1 : Nat -> Int) (x_2 : ByteArray), ∃ (x_3 : ByteArray) (x_4 : Int), ∃ (x_5 : Int) (f_2 : Nat -> Int), ∃ (x_6 : Int) (x_7 : ByteArray), (∀ (W : World), Loc w.heap.size [Blk.mk n_2 48 [Value.int .u8 0, .int .u8 0, .int .u8 0, .int .u8 0, .int .u8 0, .int .u8 0, .int .u8 0, .int .u8 0, .int .u8 0, .int .u8 0, .int .u8 0, .int .u8 0, .int .u8 0, .int .u8 0, .int .u8 0, .int .u8 0, .int .u8 0, .int .u8 0, .int .u8 0, .int .u8 0, .int .u8 0, .int .u8 0, .int .u8 0, .int .u8 0, .int .u8 0, .int .u8 0, .int .u8 0, .int .u8 0, .int .u8 0, .int .u8 0, .int .u8 0, .int .u8 0, .string (ByteArray.mk #[]), .string (ByteArray.mk #[]), .int .i64 0, .int .i64 0, .int .u8 0,
 .int .u8 0, .int .u8 0, .int .u8 0, .int .u8 0, .int .u8 0, .int .u8 0, .int .u8 0, .int .u8 0, .int .u8 0, .int .u8 0, .int .u8 0, .int .u8 0, .int .u8 0, .int .u8 0, .int .u8 0, .int .i64 0, .string (ByteArray.mk #[])] 0, Blk.mk n_1 45 (arrI .u8 a 16 0) 0] w1_2 W -> AtL W n 0 (arrI .u8 f_1 32 0 ++ ([Value.string x_2, .string x_3, .int .i64 x_4, .int .i64 x_5] ++ arrI .u8 f_2 16 0 ++ [Value.int .i64 x_6, .string x_7]))) /\ ∀ (W : World), Loc w.heap.size [Blk.mk n_2 48 [Value.int .u8 0, .int .u8 0, .int .u8 0, .int .u8 0, .int .u8 0, .int .u8 0, .int .u8 0, .int .u8 0, .int .u8 0, .int .u8 0, .int .u8 0, .int .u8 0, .int .u8 0, .int .u8 0, .int .u8 0, .int .u8 0, .int .u8 0, .int .u8 0, .int .u8 0, .int .u8 0, .int .u8 0, .int .u8 0, .int .u8 0, .int .u8 0, .int .u8 0, .int .u8 0, .int .u8 0, .int .u8 0, .int .u8 0, .int .u8 0, .int .u8 0, .int .u8 0,
 .string (ByteArray.mk #[]), .string (ByteArray.mk #[]), .int .i64 0, .int .i64 0, .int .u8 0, .int .u8 0, .int .u8 0, .int .u8 0, .int .u8 0, .int .u8 0, .int .u8 0, .int .u8 0, .int .u8 0, .int .u8 0, .int .u8 0, .int .u8 0, .int .u8 0, .int .u8 0, .int .u8 0, .int .u8 0, .int .i64 0, .string (ByteArray.mk #[])] 0, Blk.mk n_1 45 (arrI .u8 a 16 0) 0] w1_2 W -> ∃ (w1 : World), UpdP Tryz.prog 96 (.map x) (.agg (arrI .u8 f 32 0 ++ [Value.string x_1]).toArray) (.agg (arrI .u8 f_1 32 0 ++ ([Value.string x_2, .string x_3, .int .i64 x_4, .int .i64 x_5] ++ arrI .u8 f_2 16 0 ++ [Value.int .i64 x_6, .string x_7, .bool false, .int .u8 0, .int .u8 0, .int .u8 0, .int .u8 0, .int .u8 0, .int .u8 0, .int .u8 0, .int .u8 0, .int .u8 0, .int .u8 0, .int .u8 0, .int .u8 0, .int .u8 0, .int .u8 0, .int .u8 0, .int .u8 0, .int .i64 0])).toArray) W w1 /\ KeptL [n_2, n_1] W w1 /\ ∃ (x : Int),
 w1.cell? (Addr.mk b (0 + 2) none) = some (.int .i64 x) /\ ((∃ (u : Value), w1.cell? (Addr.mk b (0 + 2) none) = some u) /\ w1.frozen? (Addr.mk b (0 + 2) none) = false) /\ ∀ (w1_3 : World), PutB w1 b (0 + 2) [Value.int .i64 (IntKind.i64.wrap (x - 1))] w1_3 -> KeptL [n_2, n_1] w1 w1_3 /\ ∃ (f : Nat -> Int) (x : ByteArray), ∃ (x_8 : ByteArray) (x_9 : Int), ∃ (x_10 : Int) (f_3 : Nat -> Int), ∃ (x_11 : Int) (x_12 : ByteArray), AtL w1_3 n 0 (arrI .u8 f 32 0 ++ ([Value.string x, .string x_8, .int .i64 x_9, .int .i64 x_10] ++ arrI .u8 f_3 16 0 ++ [Value.int .i64 x_11, .string x_12])) /\ ∀ (W : World), Loc w.heap.size [Blk.mk n_2 48 (arrI .u8 f 32 0 ++ ([Value.string x, .string x_8, .int .i64 x_9, .int .i64 x_10] ++ arrI .u8 f_3 16 0 ++ [Value.int .i64 x_11, .string x_12])) (wrM 0), Blk.mk n_1 45 (arrI .u8 a 16 0) 0] w1_3 W -> R (.returned (.agg
 (arrI .u8 f 32 0 ++ ([Value.string x, .string x_8, .int .i64 x_9, .int .i64 x_10] ++ arrI .u8 f_3 16 0 ++ [Value.int .i64 x_11, .string x_12])).toArray)) W
theorem vc_finish (b : Nat) (id : Nat -> Int) (mo : Nat -> Int) (g : ByteArray) (t : ByteArray) (r : Int) (st : Int) (de : Int) (rs : ByteArray) (a : Nat -> Int) (now : Int) (sn : Int) (rn : ByteArray) (w : World) (R : Ending -> World -> Prop) (h : VC_finish b id mo g t r st de rs a now sn rn w R) : Calls Tryz.prog 70 ([Value.pointer (some { block := b, off := 0 }), .agg (arrI .u8 id 32 0 ++ ([Value.string g, .string t, .int .i64 r, .int .i64 st] ++ (arrI .u8 mo 16 0 ++ [Value.int .i64 de, .string rs]))).toArray, .agg (arrI .u8 a 16 0).toArray, .int .i64 now, .int .i64 sn, .string rn] : List Value).toArray w R :=
 calls_of_exec2' (loops := []) (tails := [(1, 5), (2, 11)]) (joins := []) (boxes := []) (rngs := []) (c := Tryz.f70.body.getD .skip) pur1_ok Tryz.func70 (by kernel_rfl) (by kernel_rfl) h
def VC_approve (b : Nat) (i : Nat -> Int) (s : ByteArray) (a : Nat -> Int) (now : Int) (w : World) (R : Ending -> World -> Prop) : Prop := ∀ (n n_1 n_2 : Nat) (W : World), Loc w.heap.size [Blk.mk n_2 42 [Value.int .i64 0, .int .u8 0, .int .u8 0, .int .u8 0, .int .u8 0, .int .u8 0, .int .u8 0, .int .u8 0, .int .u8 0, .int .u8 0, .int .u8 0, .int .u8 0, .int .u8 0, .int .u8 0, .int .u8 0, .int .u8 0, .int .u8 0, .int .u8 0, .int .u8 0, .int .u8 0, .int .u8 0, .int .u8 0, .int .u8 0, .int .u8 0, .int .u8 0, .int .u8 0, .int .u8 0, .int .u8 0, .int .u8 0, .int .u8 0, .int .u8 0, .int .u8 0, .int .u8 0, .string (ByteArray.mk #[]), .int .i64 0, .bool false, .slice none 0 0, .string (ByteArray.mk #[]), .int .i64 0, .int .i64 0, .int .u8 0, .int .u8 0, .int .u8 0, .int .u8 0, .int .u8 0, .int .u8 0, .int .u8 0, .int .u8 0, .int .u8 0, .int .u8 0, .int .u8 0, .int .u8 0,
 .int .u8 0, .int .u8 0, .int .u8 0, .int .u8 0] 2, Blk.mk n_1 45 (arrI .u8 a 16 0) 2, Blk.mk n 32 (arrI .u8 i 32 0) 2] w W -> CallsS Tryz.prog 48 #[.pointer (some (Addr.mk b 0 none)), .int .i64 now] W fun (e : Ending) (w' : World) => ∃ (x : Int), e = .returned (.int .i64 x) /\ KeptL [n_2, n_1, n] W w' /\ bsp (x != 0) (∀ (W : World), Loc w.heap.size [Blk.mk n_2 42 [Value.int .i64 0, .int .u8 0, .int .u8 0, .int .u8 0, .int .u8 0, .int .u8 0, .int .u8 0, .int .u8 0, .int .u8 0, .int .u8 0, .int .u8 0, .int .u8 0, .int .u8 0, .int .u8 0, .int .u8 0, .int .u8 0, .int .u8 0, .int .u8 0, .int .u8 0, .int .u8 0, .int .u8 0, .int .u8 0, .int .u8 0, .int .u8 0, .int .u8 0, .int .u8 0, .int .u8 0, .int .u8 0, .int .u8 0, .int .u8 0, .int .u8 0, .int .u8 0, .int .u8 0, .string (ByteArray.mk #[]), .int .i64 0, .bool false, .slice none 0 0, .string (ByteArray.mk #[]), .int .i64 0, .int .i64 0,
 .int .u8 0, .int .u8 0, .int .u8 0, .int .u8 0, .int .u8 0, .int .u8 0, .int .u8 0, .int .u8 0, .int .u8 0, .int .u8 0, .int .u8 0, .int .u8 0, .int .u8 0, .int .u8 0, .int .u8 0, .int .u8 0] (wrM 0), Blk.mk n_1 45 (arrI .u8 a 16 0) 0, Blk.mk n 32 (arrI .u8 i 32 0) 0] w' W -> R (.returned (.tuple #[.agg #[.int .i64 0, .int .u8 0, .int .u8 0, .int .u8 0, .int .u8 0, .int .u8 0, .int .u8 0, .int .u8 0, .int .u8 0, .int .u8 0, .int .u8 0, .int .u8 0, .int .u8 0, .int .u8 0, .int .u8 0, .int .u8 0, .int .u8 0, .int .u8 0, .int .u8 0, .int .u8 0, .int .u8 0, .int .u8 0, .int .u8 0, .int .u8 0, .int .u8 0, .int .u8 0, .int .u8 0, .int .u8 0, .int .u8 0, .int .u8 0, .int .u8 0, .int .u8 0, .int .u8 0, .string (ByteArray.mk #[]), .int .i64 0, .bool false, .slice none 0 0, .string (ByteArray.mk #[]), .int .i64 0, .int .i64 0, .int .u8 0, .int .u8 0, .int .u8 0, .int .u8 0,
 .int .u8 0, .int .u8 0, .int .u8 0, .int .u8 0, .int .u8 0, .int .u8 0, .int .u8 0, .int .u8 0, .int .u8 0, .int .u8 0, .int .u8 0, .int .u8 0], .int .i64 x])) W) (CallsS Tryz.prog 50 #[.pointer (some (Addr.mk b 0 none)), .agg (arrI .u8 i 32 0).toArray, .string s, .agg (arrI .u8 a 16 0).toArray, .int .i64 now, .int .i64 1, .string (ByteArray.mk #[])] w' fun (e : Ending) (w'_1 : World) => ∃ (x : Int), e = .returned (.int .i64 x) /\ KeptL [n_2, n_1, n] w' w'_1 /\ bsp (x != 0) (∀ (W : World), Loc w.heap.size [Blk.mk n_2 42 [Value.int .i64 0, .int .u8 0, .int .u8 0, .int .u8 0, .int .u8 0, .int .u8 0, .int .u8 0, .int .u8 0, .int .u8 0, .int .u8 0, .int .u8 0, .int .u8 0, .int .u8 0, .int .u8 0, .int .u8 0, .int .u8 0, .int .u8 0, .int .u8 0, .int .u8 0, .int .u8 0, .int .u8 0, .int .u8 0, .int .u8 0, .int .u8 0, .int .u8 0, .int .u8 0, .int .u8 0, .int .u8 0,
 .int .u8 0, .int .u8 0, .int .u8 0, .int .u8 0, .int .u8 0, .string (ByteArray.mk #[]), .int .i64 0, .bool false, .slice none 0 0, .string (ByteArray.mk #[]), .int .i64 0, .int .i64 0, .int .u8 0, .int .u8 0, .int .u8 0, .int .u8 0, .int .u8 0, .int .u8 0, .int .u8 0, .int .u8 0, .int .u8 0, .int .u8 0, .int .u8 0, .int .u8 0, .int .u8 0, .int .u8 0, .int .u8 0, .int .u8 0] (wrM 0), Blk.mk n_1 45 (arrI .u8 a 16 0) 0, Blk.mk n 32 (arrI .u8 i 32 0) 0] w'_1 W -> R (.returned (.tuple #[.agg #[.int .i64 0, .int .u8 0, .int .u8 0, .int .u8 0, .int .u8 0, .int .u8 0, .int .u8 0, .int .u8 0, .int .u8 0, .int .u8 0, .int .u8 0, .int .u8 0, .int .u8 0, .int .u8 0, .int .u8 0, .int .u8 0, .int .u8 0, .int .u8 0, .int .u8 0, .int .u8 0, .int .u8 0, .int .u8 0, .int .u8 0, .int .u8 0, .int .u8 0, .int .u8 0, .int .u8 0, .int .u8 0, .int .u8 0, .int .u8 0, .int .u8 0, .int .u8 0,
 .int .u8 0, .string (ByteArray.mk #[]), .int .i64 0, .bool false, .slice none 0 0, .string (ByteArray.mk #[]), .int .i64 0, .int .i64 0, .int .u8 0, .int .u8 0, .int .u8 0, .int .u8 0, .int .u8 0, .int .u8 0, .int .u8 0, .int .u8 0, .int .u8 0, .int .u8 0, .int .u8 0, .int .u8 0, .int .u8 0, .int .u8 0, .int .u8 0, .int .u8 0], .int .i64 x])) W) (∀ (W : World), Loc w.heap.size [Blk.mk n_2 42 ([Value.int .i64 2] ++ arrI .u8 i 32 0 ++ [Value.string s, .int .i64 0, .bool false, .slice none 0 0, .string (ByteArray.mk #[]), .int .i64 0, .int .i64 0, .int .u8 0, .int .u8 0, .int .u8 0, .int .u8 0, .int .u8 0, .int .u8 0, .int .u8 0, .int .u8 0, .int .u8 0, .int .u8 0, .int .u8 0, .int .u8 0, .int .u8 0, .int .u8 0, .int .u8 0, .int .u8 0]) (wrM 0), Blk.mk n_1 45 (arrI .u8 a 16 0) 0, Blk.mk n 32 (arrI .u8 i 32 0) 0] w'_1 W -> R (.returned (.tuple #[.agg
 ([Value.int .i64 2] ++ arrI .u8 i 32 0 ++ [Value.string s, .int .i64 0, .bool false, .slice none 0 0, .string (ByteArray.mk #[]), .int .i64 0, .int .i64 0, .int .u8 0, .int .u8 0, .int .u8 0, .int .u8 0, .int .u8 0, .int .u8 0, .int .u8 0, .int .u8 0, .int .u8 0, .int .u8 0, .int .u8 0, .int .u8 0, .int .u8 0, .int .u8 0, .int .u8 0, .int .u8 0]).toArray, .int .i64 0])) W))
theorem vc_approve (b : Nat) (i : Nat -> Int) (s : ByteArray) (a : Nat -> Int) (now : Int) (w : World) (R : Ending -> World -> Prop) (h : VC_approve b i s a now w R) : Calls Tryz.prog 19 ([Value.pointer (some { block := b, off := 0 }), .agg (arrI .u8 i 32 0).toArray, .string s, .agg (arrI .u8 a 16 0).toArray, .int .i64 now] : List Value).toArray w R :=
 calls_of_exec2' (loops := []) (tails := []) (joins := []) (boxes := []) (rngs := []) (c := Tryz.f19.body.getD .skip) pur1_ok Tryz.func19 (by kernel_rfl) (by kernel_rfl) h
end Go.Proofs.YtfacflbmlfbeeaaGreatDoor
namespace Go.Proofs.YtfacflbmlfbeeaaGreatDoor
open Go.RowKit Go.Sort Go.Maps
theorem putL_mid : ∀ (vs a b c : List Value), vs.length = b.length -> putL (a ++ (b ++ c)) a.length vs = a ++ (vs ++ c)
 | [], a, b, c, h => by
  have : b = [] := List.eq_nil_of_length_eq_zero h.symm
  subst this; rfl
 | v :: r, a, [], c, h => by simp at h
 | v :: r, a, x :: b, c, h => by
  have ih := putL_mid r (a ++ [v]) b c (by simpa using h)
  simp only [putL]
  have e : (a ++ (x :: b ++ c)).set a.length v = (a ++ [v]) ++ (b ++ c) := by
   rw [List.set_append_right _ _ (Nat.le_refl _), Nat.sub_self]
   simp
  rw [e, show a.length + 1 = (a ++ [v]).length by simp, ih]
  simp
theorem put_mo {w w1 : World} {n : Nat} {x : Sb} {a : Nat -> Int} {t : TypeId} (h : w.heap[n]? = some (.cells (sbC x).toArray t (0, 0))) (hp : PutB w n (0 + 36) (arrI .u8 a 16 0) w1) : w1.heap[n]? = some (.cells (sbC { x with mo := a }).toArray t (0, 0)) := by
 have h1 := hp.block h
 have e1 : (sbC x).toArray.toList = (arrI .u8 x.id 32 0 ++ ([.string x.g, .string x.tx, .int .i64 x.r, .int .i64 x.st] : List Value)) ++ (arrI .u8 x.mo 16 0 ++ ([.int .i64 x.de, .string x.rs] : List Value)) := by
  unfold sbC
  simp only [List.append_assoc]
 have e2 := putL_mid (arrI .u8 a 16 0) (arrI .u8 x.id 32 0 ++ ([.string x.g, .string x.tx, .int .i64 x.r, .int .i64 x.st] : List Value)) (arrI .u8 x.mo 16 0) ([.int .i64 x.de, .string x.rs] : List Value) rfl
 rw [e1, show 0 + 36 = (arrI .u8 x.id 32 0 ++ ([.string x.g, .string x.tx, .int .i64 x.r, .int .i64 x.st] : List Value)).length from rfl, e2] at h1
 rw [h1]
 unfold sbC
 simp only [List.append_assoc]
def finS39 (x : Sb) (a : Nat -> Int) (now st : Int) (rs : ByteArray) : Sb := { x with st := st, mo := a, de := now, rs := rs }
def plainE (x : Sb) : En := ⟨x, false, fun _ => 0, 0⟩
def finQ (q : Qu) (x : Sb) : Qu := { q with es := aset q.es x.ky (plainE x), wt := q.wt - 1 }
set_option maxHeartbeats 2000000 in
set_option maxRecDepth 100000 in
theorem finish_any {w : World} {b mb eb : Nat} {q : Qu} (h : Mq w b mb eb q) (hwt : 1 <= q.wt /\ q.wt <= 10000) (x : Sb) (hx : BY x.id) (hg : x.g.size <= 1073741824) (a : Nat -> Int) (now st : Int) (rs : ByteArray) :
  Calls Tryz.prog 70 #[.pointer (some ⟨b, 0, none⟩), sbV x, .agg (arrI .u8 a 16 0).toArray, .int .i64 now, .int .i64 st, .string rs] w fun e w' => e = .returned (sbV (finS39 x a now st rs)) /\ Mq w' b mb eb (finQ q (finS39 x a now st rs)) /\ Kp (QB b mb eb) w w' := by
 refine vc_finish b x.id x.mo x.g x.tx x.r x.st x.de x.rs a now st rs w _ (fun n n1 n2 W hW => ?_)
 have kW : K0 w W := hW.kk rfl
 have c0 := hW.cells 0 rfl
 have c1 := hW.cells 1 rfl
 have c2 := hW.cells 2 rfl
 have g2 : w.heap.size <= n := hW.fresh 2 rfl rfl
 have a12 := hW.apart 1 2 rfl rfl (by decide)
 have a02 := hW.apart 0 2 rfl rfl (by decide)
 simp only at a12 a02
 refine ⟨fun wx => Kp (· = n) W wx, .refl _ _, a, fun wx k => AtL_block (k.blk c1 (fun e => a12 e)) rfl, ⟨⟨_, cell_at c2 rfl⟩, frozen_block c2 _⟩, fun w1 p1 => ⟨p1.kp, ?_⟩⟩
 have d1 : w1.heap[n]? = some (.cells (sbC { x with st := st }).toArray 48 (0, 0)) := p1.block c2
 refine ⟨WrL_block d1 (by show 0 + 36 + 16 <= 54; omega), fun w2 p2 => ?_⟩
 have d2 : w2.heap[n]? = some (.cells (sbC { x with st := st, mo := a }).toArray 48 (0, 0)) := put_mo d1 p2
 refine ⟨⟨⟨_, cell_at d2 rfl⟩, frozen_block d2 _⟩, fun w3 p3 => ?_⟩
 have d3 : w3.heap[n]? = some (.cells (sbC { x with st := st, mo := a, de := now }).toArray 48 (0, 0)) := p3.block d2
 refine ⟨⟨⟨_, cell_at d3 rfl⟩, frozen_block d3 _⟩, fun w4 p4 => ?_⟩
 have d4 : w4.heap[n]? = some (.cells (sbC (finS39 x a now st rs)).toArray 48 (0, 0)) := p4.block d3
 have k4 : Kp (· = n) W w4 := ((p1.kp.trans p2.kp).trans p3.kp).trans p4.kp
 have k04 : K0 w w4 := kW.fresh k4 (fun i hi e => by omega)
 have h4 := h.k0 k04
 have b0 := k4.blk c0 a02
 have b1 := k4.blk c1 a12
 generalize hX : finS39 x a now st rs = X at d4 ⊢
 have hXi : X.id = x.id := by rw [<- hX]; rfl
 have hXg : X.g = x.g := by rw [<- hX]; rfl
 refine ⟨.of_kp k4 (fun z hz => ?_), some eb, fun W5 hW5 => (h4.k0 (hW5.kk rfl)).cE, X.id, fun W5 hW5 => AtL_block ((hW5.kk rfl : K0 w4 W5).blk d4 (fun h => h)) rfl, X.g, fun W5 hW5 => cell_at ((hW5.kk rfl : K0 w4 W5).blk d4 (fun h => h)) rfl, X.id, X.g, X.tx, X.r, X.st, X.mo, X.de, X.rs, fun W5 hW5 => AtL_block ((hW5.kk rfl : K0 w4 W5).blk d4 (fun h => h)) rfl, fun W5 hW5 => ?_⟩
 ·simp only [List.mem_cons, List.not_mem_nil, or_false] at hz
  rcases hz with rfl | rfl
  ·exact a02
  ·exact a12
 have k5 : K0 w4 W5 := hW5.kk rfl
 have h5 := h4.k0 k5
 have e0 := hW5.cells 0 rfl
 have e1 := hW5.cells 1 rfl
 have e4 := k5.blk d4 (fun h => h)
 obtain ⟨w6, hu, h6, k6⟩ := h5.updE (plainE X) (f := X.id) (by rw [hXi]; exact hx) (g := X.g) (by rw [hXg]; exact hg)
 have neE : ∀ {z : Nat} {c : Array Value} {t : TypeId} {f : Nat × Nat}, W5.heap[z]? = some (.cells c t f) -> z ≠ eb := fun hz e => by
  obtain ⟨es, k, hb, _⟩ := h5.me.blk
  rw [e, hb] at hz; cases hz
 have f0 := k6.blk e0 (neE e0)
 have f1 := k6.blk e1 (neE e1)
 have f4 := k6.blk e4 (neE e4)
 refine ⟨w6, hu, h5.kept k6 (fun k e => .inr (.inr e)) (fun z hz => ?_), q.wt, h6.cW, h6.wrW, fun w7 p7 => ⟨h6.kept p7.kp (fun k e => .inl e) (fun z hz => ?_), X.id, X.g, X.tx, X.r, X.st, X.mo, X.de, X.rs, ?_, fun W8 hW8 => ⟨rfl, ?_⟩⟩⟩
 ·simp only [List.mem_cons, List.not_mem_nil, or_false] at hz
  rcases hz with rfl | rfl
  ·exact ⟨_, _, _, e0, rfl⟩
  ·exact ⟨_, _, _, e1, rfl⟩
 ·simp only [List.mem_cons, List.not_mem_nil, or_false] at hz
  rcases hz with rfl | rfl
  ·exact ⟨_, _, _, f0, rfl⟩
  ·exact ⟨_, _, _, f1, rfl⟩
 ·exact AtL_block (p7.kp.blk f4 (fun e => by have hs := h6.st; have e : n = b := e; rw [e, hs] at f4; simp at f4)) rfl
 ·rw [wr64 (by omega) (by omega)] at p7
  have h7 := h6.putW p7
  have k7 : Kp (QB b mb eb) w w7 := ((k04.trans k5).q0.trans (k6.qb (fun k e => .inr (.inr e)))).trans (p7.kp.qb (fun k e => .inl e))
  exact h.loc h7 rfl k7 hW8
def decE (q : Qu) (id : Nat -> Int) (g : ByteArray) (a : Nat -> Int) (now : Int) : Int :=
 if isMB (q.md g) a = false then 20 else if (aget q.es (idI id, g)).isSome = false then 8 else if (q.en (idI id, g)).s.st ≠ 0 then 10 else if blk (q.en (idI id, g)) (auI a) now = true then 25 else 0
def decQ (q : Qu) (id : Nat -> Int) (g : ByteArray) (a : Nat -> Int) (now st : Int) (rs : ByteArray) : Qu :=
 if decE q id g a now = 0 then finQ q (finS39 (q.en (idI id, g)).s a now st rs) else q
theorem Qu.OK.en {q : Qu} (h : q.OK) {k : Ky} (hs : (aget q.es k).isSome = true) : (q.en k).OK /\ k = (q.en k).s.ky := by
 unfold Qu.en
 cases hgt : aget q.es k with
 | none => rw [hgt] at hs; cases hs
 | some x =>
  have := h.es k x hgt
  exact ⟨this.1, this.2.1⟩
theorem cnt_pos {l : List (Ky × En)} {P : Ky × En -> Bool} {p : Ky × En} (hm : p ∈ l) (hp : P p = true) : 1 <= (l.filter P).length := List.length_pos_iff.2 (List.ne_nil_of_mem (List.mem_filter.2 ⟨hm, hp⟩))
set_option maxHeartbeats 2000000 in
set_option maxRecDepth 100000 in
theorem decide_any39 {w : World} {b mb eb : Nat} {q : Qu} (h : Mq w b mb eb q) (ho : q.OK) (hln : q.es.length <= 10000) (id : Nat -> Int) (hid : BY id) (g : ByteArray) (hg : g.size <= 1073741824) (a : Nat -> Int) (ha : BY a) (now : Int) (hn : 0 <= now /\ now <= 105190559) (st : Int) (rs : ByteArray) :
  Calls Tryz.prog 50 #[.pointer (some ⟨b, 0, none⟩), .agg (arrI .u8 id 32 0).toArray, .string g, .agg (arrI .u8 a 16 0).toArray, .int .i64 now, .int .i64 st, .string rs] w fun e w' => e = .returned (.int .i64 (decE q id g a now)) /\ Mq w' b mb eb (decQ q id g a now st rs) /\ Kp (QB b mb eb) w w' := by
 refine vc_decide b id g a now st rs w _ (fun n n1 W hW => ?_)
 have kW : K0 w W := hW.kk rfl
 have c0 := hW.cells 0 rfl
 have c1 := hW.cells 1 rfl
 unfold decQ decE
 refine ⟨(ismod_any (h.k0 kW) ho g hg a ha).mono fun e w1 ⟨he, k1⟩ => ⟨_, he, .of_k0 k1, bsp_intro (fun h1 => ?_) (fun h1 W2 hW2 => ?_)⟩⟩
 ·have h1 : isMB (q.md g) a = false := by simpa using h1
  rw [if_pos h1, if_neg (by decide)]
  exact ⟨rfl, h.k0 (kW.trans k1), (kW.trans k1).q0⟩
 have h1 : isMB (q.md g) a = true := by simpa using h1
 rw [h1, if_neg (by decide)]
 have k2 : K0 w W2 := hW2.k0 (kW.trans k1)
 have h2 := h.k0 k2
 have d0 := hW2.cells 0 rfl
 have d1 := hW2.cells 1 rfl
 have heq : q.en (idI id, g) = q.en (idI id, g) := rfl
 generalize hX : q.en (idI id, g) = X at heq
 refine ⟨fun wx => K0 W2 wx, .refl _ _, some eb, fun wx k => (h2.k0 k).cE, id, fun wx k => AtL_block (k.blk d1 (fun h => h)) rfl, X.s.id, X.s.g, X.s.tx, X.s.r, X.s.st, X.s.mo, X.s.de, X.s.rs, X.le, X.ho, X.si, (aget q.es (idI id, g)).isSome, fun wx k => by have := (h2.k0 k).lookE hid hg; rw [hX] at this; exact this, fun n4 w4 hn4 => ⟨hn4.kp _, WrL_block hn4.block (by show 0 + 72 <= 72; omega), fun w5 p5 => ?_⟩⟩
 have k5 : K0 W2 w5 := put_k0 (hn4.kp _) p5 hn4.ge
 have b4 : w5.heap[n4]? = some (.cells (enC X).toArray 107 (0, 0)) := p5.full hn4.block rfl
 have k05 := k2.trans k5
 have h5 := h.k0 k05
 have e0 := k5.blk d0 (fun h => h)
 have e1 := k5.blk d1 (fun h => h)
 refine ⟨.of_k0 k5, bsp_intro (fun h3 => ?_) (fun h3 => ⟨X.s.st, cell_at b4 rfl, bsp_intro (fun h4 => ?_) (fun h4 => ?_)⟩)⟩
 ·have h3 : (aget q.es (idI id, g)).isSome = false := by simpa using h3
  rw [if_pos h3, if_neg (by decide)]
  exact ⟨rfl, h5, k05.q0⟩
 ·have h3 : (aget q.es (idI id, g)).isSome = true := by simpa using h3
  have h4 : X.s.st ≠ 0 := by simpa using h4
  rw [if_neg (by rw [h3]; decide), if_pos h4, if_neg (by decide)]
  exact ⟨rfl, h5, k05.q0⟩
 have h3 : (aget q.es (idI id, g)).isSome = true := by simpa using h3
 have h4 : X.s.st = 0 := by simpa using h4
 rw [if_neg (by rw [h3]; decide), if_neg (by omega)]
 obtain ⟨hxo, hxk⟩ := ho.en h3
 rw [hX] at hxo hxk
 refine ⟨X.s.id, X.s.g, X.s.tx, X.s.r, X.s.st, X.s.mo, X.s.de, X.s.rs, X.le, X.ho, X.si, AtL_block b4 rfl, ?_⟩
 refine ⟨(blocked_any X a now hxo ha hn w5).mono fun e w6 ⟨he, k6⟩ => ⟨_, he, .of_k0 k6, bsp_intro (fun h6 => ?_) (fun h6 => ?_)⟩⟩
 ·rw [if_pos h6, if_neg (by decide)]
  exact ⟨rfl, h5.k0 k6, (k05.trans k6).q0⟩
 rw [if_neg (by rw [h6]; decide), if_pos rfl]
 have b6 := k6.blk b4 (fun h => h)
 have k06 := k05.trans k6
 have hm : ((idI id, g), X) ∈ q.es := by
  have h7 : aget q.es (idI id, g) = some X := by
   cases hgt : aget q.es (idI id, g) with
   | none => rw [hgt] at h3; cases h3
   | some y =>
    have : q.en (idI id, g) = y := by unfold Qu.en; rw [hgt]; rfl
    rw [<- hX, this]
  exact aget_mem h7
 have hpos : 1 <= (q.es.filter fun p => p.2.s.st == 0).length := cnt_pos hm (by simp [h4])
 have hle : (q.es.filter fun p => p.2.s.st == 0).length <= q.es.length := List.length_filter_le _ _
 have hwt := ho.wt
 refine ⟨X.s.id, X.s.g, X.s.tx, X.s.r, X.s.st, X.s.mo, X.s.de, X.s.rs, AtL_block b6 rfl, ?_⟩
 refine ⟨(finish_any (h.k0 k06) (by omega) X.s hxo.s.id hxo.s.g a now st rs).mono fun e w7 ⟨he, h7, k7⟩ => ?_⟩
 generalize hY : finS39 X.s a now st rs = Y at he h7 ⊢
 refine ⟨Y.id, Y.g, Y.tx, Y.r, Y.st, Y.mo, Y.de, Y.rs, he, (h.k0 k06).kept k7 (fun k e => e) (fun z hz => ?_), rfl, h7, k06.q0.trans k7⟩
 simp only [List.mem_cons, List.not_mem_nil, or_false] at hz
 rcases hz with rfl | rfl
 ·exact ⟨_, _, _, k6.blk e0 (fun h => h), rfl⟩
 ·exact ⟨_, _, _, k6.blk e1 (fun h => h), rfl⟩
end Go.Proofs.YtfacflbmlfbeeaaGreatDoor
namespace Go.Proofs.YtfacflbmlfbeeaaGreatDoor
open Go.RowKit Go.Sort Go.Maps
theorem cnt_set {β : Type} {P : Ky × β -> Bool} {k : Ky} {u v : β} : ∀ l : List (Ky × β), aget l k = some u -> ((aset l k v).filter P).length + (if P (k, u) = true then 1 else 0) = (l.filter P).length + (if P (k, v) = true then 1 else 0)
 | [], h => by simp [aget] at h
 | (b, w) :: r, h => by
  unfold aget at h
  unfold aset
  by_cases hb : b = k
  ·rw [if_pos hb] at h
   cases h
   subst hb
   rw [if_pos rfl]
   simp only [List.filter_cons]
   split <;> split <;> simp <;> omega
  ·rw [if_neg hb] at h
   have ih := cnt_set (P := P) (v := v) r h
   rw [if_neg hb]
   cases hP : P (b, w) with
   | true => rw [List.filter_cons_of_pos hP, List.filter_cons_of_pos hP, List.length_cons, List.length_cons]; omega
   | false => rw [List.filter_cons_of_neg (by rw [hP]; decide), List.filter_cons_of_neg (by rw [hP]; decide)]; exact ih
theorem Qu.OK.setR {q q' : Qu} (h : q.OK) {g : ByteArray} {l : List (Nat -> Int)} (hl : ∀ m ∈ l, BY m /\ NZ 16 m) (hR : setR q g l q') : q'.OK := by
 rcases hR with ⟨_, rfl⟩ | ⟨_, _, rfl⟩ | ⟨hE, hne, x, hp, _, hc, rfl⟩
 ·exact h
 ·refine ⟨h.room, h.days, h.wt, fun g' y hy => ?_, h.es⟩
  have hy : aget (adel q.ms g) g' = some y := hy
  rw [aget_adel] at hy
  split at hy
  ·cases hy
  ·exact h.ms g' y hy
 ·have h0 : gnE g = 0 /\ ¬ 8 < l.length := by
   unfold setE at hE
   split at hE
   ·contradiction
   ·rename_i h1
    split at hE
    ·cases hE
    ·rename_i h2
     exact ⟨by simpa using h1, h2⟩
  refine ⟨h.room, h.days, h.wt, fun g' y hy => ?_, h.es⟩
  have hy : aget (aset q.ms g x) g' = some y := hy
  rw [aget_aset] at hy
  split at hy
  ·rename_i e
   cases hy
   subst e
   refine ⟨h0.1, ⟨fun m hm => hl m (hp.subset hm), by rw [hp.length_eq]; omega, hc⟩, fun e => hne ?_⟩
   rw [e] at hp
   exact List.nil_perm.1 hp
  ·exact h.ms g' y hy
theorem i64s {x : Int} (h : 0 <= x /\ x <= 105190559) : I64 x := ⟨by omega, by omega⟩
theorem by0 : BY fun _ => 0 := fun _ => ⟨Int.le_refl 0, by show (0 : Int) <= 255; decide⟩
theorem newE_ok {id : Nat -> Int} {g tx : ByteArray} {now : Int} (hid : BY id /\ NZ 32 id) (hg : g.size <= 80) (ht : tx.size <= 65536) (hn : 0 <= now /\ now <= 105190559) : (newE id g tx now).OK :=
 ⟨⟨hid.1, hid.2, by0, fun _ _ => rfl, by show g.size <= _; omega, by show tx.size <= _; omega, by show (⟨#[]⟩ : ByteArray).size <= _; decide, i64s hn, ⟨by show _ <= (0 : Int); decide, by show (0 : Int) <= _; decide⟩, ⟨by show _ <= (0 : Int); decide, by show (0 : Int) <= _; decide⟩⟩, by0, fun _ _ => rfl, ⟨by show (0 : Int) <= 0; decide, by show (0 : Int) <= _; decide⟩⟩
theorem Qu.OK.sub {q : Qu} (h : q.OK) {id : Nat -> Int} {g tx : ByteArray} {now : Int} (hid : BY id /\ NZ 32 id) : (subQ q id g tx now).OK := by
 unfold subQ
 split
 ·rename_i h0
  unfold subE at h0
  split at h0
  ·cases h0
  rename_i h1
  split at h0
  ·contradiction
  rename_i h2
  split at h0
  ·cases h0
  rename_i h3
  split at h0
  ·cases h0
  split at h0
  ·cases h0
  rename_i h5
  split at h0
  ·cases h0
  have hn := minB_iff.1 (show minB now = true by simpa using h1)
  have h2 : gnE g = 0 := by simpa using h2
  have hg := gnE_sz39 h2
  have hnone : aget q.es (idI id, g) = none := by
   cases hgt : aget q.es (idI id, g) with
   | none => rfl
   | some y => rw [hgt] at h5; exact absurd rfl h5
  have hnew : aset q.es (idI id, g) (newE id g tx now) = q.es ++ [((idI id, g), newE id g tx now)] := aset_new (aget_none.1 hnone)
  refine ⟨h.room, h.days, ?_, h.ms, fun k x hx => ?_⟩
  ·show q.wt + 1 = (((aset q.es (idI id, g) (newE id g tx now)).filter _).length : Nat)
   rw [hnew, List.filter_append, List.length_append]
   have := h.wt
   have e : ([((idI id, g), newE id g tx now)].filter fun p : Ky × En => p.2.s.st == 0).length = 1 := rfl
   rw [e]
   omega
  ·have hx : aget (aset q.es (idI id, g) (newE id g tx now)) k = some x := hx
   rw [aget_aset] at hx
   split at hx
   ·rename_i e
    cases hx
    exact ⟨newE_ok hid hg (by omega) hn, e.symm, h2, by show tx.size <= _; omega, by show (⟨#[]⟩ : ByteArray).size <= _; decide, hn, ⟨by show (0 : Int) <= 0; decide, by show (0 : Int) <= _; decide⟩, ⟨by show (0 : Int) <= 0; decide, by show (0 : Int) <= _; decide⟩⟩
   ·exact h.es k x hx
 ·exact h
theorem Qu.OK.put {q : Qu} (h : q.OK) {k : Ky} {u v : En} (hu : aget q.es k = some u) {wt : Int} (hw : wt + (if u.s.st == 0 then 1 else 0) = q.wt + (if v.s.st == 0 then 1 else 0))
  (hv : v.OK /\ k = v.s.ky /\ gnE v.s.g = 0 /\ v.s.tx.size <= 65536 /\ v.s.rs.size <= 200 /\ (0 <= v.s.r /\ v.s.r <= 105190559) /\ (0 <= v.s.de /\ v.s.de <= 105190559) /\ (0 <= v.s.st /\ v.s.st <= 3)) : ({ q with es := aset q.es k v, wt := wt } : Qu).OK := by
 refine ⟨h.room, h.days, ?_, h.ms, fun k' x hx => ?_⟩
 ·show wt = (((aset q.es k v).filter _).length : Nat)
  have h1 := cnt_set (P := fun p : Ky × En => p.2.s.st == 0) (v := v) q.es hu
  have h2 := h.wt
  simp only at h1
  split at hw <;> split at hw <;> simp_all <;> omega
 ·have hx : aget (aset q.es k v) k' = some x := hx
  rw [aget_aset] at hx
  split at hx
  ·rename_i e; cases hx; subst e; exact hv
  ·exact h.es k' x hx
theorem Qu.OK.clm {q : Qu} (h : q.OK) (hd : q.es.Pairwise fun p q => p.1 ≠ q.1) {P : En -> Bool} {x : Sb} (hx : x ∈ selE P q.es) {a : Nat -> Int} (ha : BY a /\ NZ 16 a) {now : Int} (hn : 0 <= now /\ now <= 105190559) : ({ q with es := aset q.es x.ky ⟨x, true, a, now⟩ } : Qu).OK := by
 obtain ⟨k, e, hm, _, rfl⟩ := selE_mem hx
 have hg := aget_at hd hm
 obtain ⟨h1, h2, h3⟩ := h.es k e hg
 subst h2
 exact h.put (v := ⟨e.s, true, a, now⟩) hg rfl ⟨⟨h1.s, ha.1, ha.2, hn⟩, rfl, h3⟩
theorem Qu.OK.fin {q : Qu} (h : q.OK) {k : Ky} {u : En} (hu : aget q.es k = some u) (hs : u.s.st = 0) {a : Nat -> Int} (ha : BY a /\ NZ 16 a) {now : Int} (hn : 0 <= now /\ now <= 105190559) {st : Int} (hst : 1 <= st /\ st <= 3) {rs : ByteArray} (hr : rs.size <= 200) : (finQ q (finS39 u.s a now st rs)).OK := by
 obtain ⟨h1, h2, h3, h4, h5, h6, h7, h8⟩ := h.es k u hu
 subst h2
 refine h.put (v := plainE (finS39 u.s a now st rs)) hu ?_ ⟨⟨⟨h1.s.id, h1.s.idz, ha.1, ha.2, h1.s.g, h1.s.tx, by show rs.size <= _; omega, h1.s.r, ⟨by show _ <= st; omega, by show st <= _; omega⟩, i64s hn⟩, by0, fun _ _ => rfl, ⟨by show (0 : Int) <= 0; decide, by show (0 : Int) <= _; decide⟩⟩, rfl, h3, h4, hr, h6, hn, ⟨by show 0 <= st; omega, hst.2⟩⟩
 have e1 : (u.s.st == 0) = true := by simp [hs]
 have e2 : ((plainE (finS39 u.s a now st rs)).s.st == 0) = false := by show (st == 0) = false; simp; omega
 rw [e1, e2]
 simp
theorem Qu.OK.dec {q : Qu} (h : q.OK) {id : Nat -> Int} {g : ByteArray} {a : Nat -> Int} (ha : BY a /\ NZ 16 a) {now : Int} (hn : 0 <= now /\ now <= 105190559) {st : Int} (hst : 1 <= st /\ st <= 3) {rs : ByteArray} (hr : rs.size <= 200) : (decQ q id g a now st rs).OK := by
 unfold decQ
 split
 ·rename_i h0
  unfold decE at h0
  split at h0
  ·cases h0
  split at h0
  ·cases h0
  rename_i h2
  split at h0
  ·cases h0
  rename_i h3
  cases hgt : aget q.es (idI id, g) with
  | none => rw [hgt] at h2; exact absurd rfl h2
  | some u =>
   have hen : q.en (idI id, g) = u := by unfold Qu.en; rw [hgt]; rfl
   rw [hen] at h3 ⊢
   exact h.fin hgt (by simpa using h3) ha hn hst hr
 ·exact h
def apC (k : Int) (f : Nat -> Int) (g : ByteArray) : List Value := ([.int .i64 k] : List Value) ++ (arrI .u8 f 32 0 ++ (([.string g, .int .i64 0, .bool false, .slice none 0 0, .string ⟨#[]⟩, .int .i64 0, .int .i64 0] : List Value) ++ arrI .u8 (fun _ => 0) 16 0))
def apE (q : Qu) (id : Nat -> Int) (g : ByteArray) (a : Nat -> Int) (now : Int) : Int := if minB now = false then 2 else decE q id g a now
def apQ (q : Qu) (id : Nat -> Int) (g : ByteArray) (a : Nat -> Int) (now st : Int) (rs : ByteArray) : Qu := if minB now = false then q else decQ q id g a now st rs
def cmdL (e : Int) (id : Nat -> Int) (g : ByteArray) : List Value := if e = 0 then apC 2 id g else apC 0 (fun _ => 0) ⟨#[]⟩
set_option maxRecDepth 100000 in
theorem approve_any {w : World} {b mb eb : Nat} {q : Qu} (h : Mq w b mb eb q) (ho : q.OK) (hln : q.es.length <= 10000) (id : Nat -> Int) (hid : BY id) (g : ByteArray) (hg : g.size <= 1073741824) (a : Nat -> Int) (ha : BY a) (now : Int) :
  Calls Tryz.prog 19 #[.pointer (some ⟨b, 0, none⟩), .agg (arrI .u8 id 32 0).toArray, .string g, .agg (arrI .u8 a 16 0).toArray, .int .i64 now] w fun e w' => e = .returned (.tuple #[.agg (cmdL (apE q id g a now) id g).toArray, .int .i64 (apE q id g a now)]) /\ Mq w' b mb eb (apQ q id g a now 1 ⟨#[]⟩) /\ Kp (QB b mb eb) w w' := by
 refine vc_approve b id g a now w _ (fun n n1 n2 W hW => ?_)
 have kW : K0 w W := hW.kk rfl
 have c0 := hW.cells 0 rfl
 have c1 := hW.cells 1 rfl
 have c2 := hW.cells 2 rfl
 refine ⟨(begin_any b now W).mono fun e w1 ⟨he, k1⟩ => ⟨_, he, .of_k0 k1, bsp_intro (fun h1 W2 hW2 => ?_) (fun h1 => ?_)⟩⟩
 ·have h1 : minB now = false := by
   cases hm : minB now with
   | false => rfl
   | true => rw [hm] at h1; simp at h1
  have hE : apE q id g a now = 2 := by unfold apE; rw [h1, if_pos rfl]
  have hQ : apQ q id g a now 1 ⟨#[]⟩ = q := by unfold apQ; rw [h1, if_pos rfl]
  have hC : cmdL 2 id g = apC 0 (fun _ => 0) ⟨#[]⟩ := by unfold cmdL; rw [if_neg (by decide)]
  rw [hE, hQ, hC, h1]
  have k2 : K0 w W2 := hW2.k0 (kW.trans k1)
  exact ⟨rfl, h.k0 k2, k2.q0⟩
 have h1 : minB now = true := by
  cases hm : minB now with
  | true => rfl
  | false => rw [hm] at h1; simp at h1
 have hE : apE q id g a now = decE q id g a now := by unfold apE; rw [h1, if_neg (by decide)]
 have hQ : apQ q id g a now 1 ⟨#[]⟩ = decQ q id g a now 1 ⟨#[]⟩ := by unfold apQ; rw [h1, if_neg (by decide)]
 rw [hE, hQ]
 have k01 := kW.trans k1
 refine ⟨(decide_any39 (h.k0 k01) ho hln id hid g hg a ha now (minB_iff.1 h1) 1 ⟨#[]⟩).mono fun e w2 ⟨he, h2, k2⟩ => ⟨_, he, (h.k0 k01).kept k2 (fun k e => e) (fun z hz => ?_), bsp_intro (fun h3 W3 hW3 => ?_) (fun h3 W3 hW3 => ?_)⟩⟩
 ·simp only [List.mem_cons, List.not_mem_nil, or_false] at hz
  rcases hz with rfl | rfl | rfl
  ·exact ⟨_, _, _, k1.blk c0 (fun h => h), rfl⟩
  ·exact ⟨_, _, _, k1.blk c1 (fun h => h), rfl⟩
  ·exact ⟨_, _, _, k1.blk c2 (fun h => h), rfl⟩
 ·have h3 : decE q id g a now ≠ 0 := by simpa using h3
  have hC : cmdL (decE q id g a now) id g = apC 0 (fun _ => 0) ⟨#[]⟩ := by unfold cmdL; rw [if_neg h3]
  rw [hC]
  have hq : decQ q id g a now 1 ⟨#[]⟩ = q := by unfold decQ; rw [if_neg h3]
  rw [hq] at h2 ⊢
  exact ⟨rfl, h.loc h2 rfl (k01.q0.trans k2) hW3⟩
 ·have h3 : decE q id g a now = 0 := by simpa using h3
  rw [h3]
  refine ⟨rfl, h.loc h2 ?_ (k01.q0.trans k2) hW3⟩
  unfold decQ
  split <;> rfl
end Go.Proofs.YtfacflbmlfbeeaaGreatDoor
namespace Go.Proofs.YtfacflbmlfbeeaaGreatDoor
open Go.RowKit
def lenU (c : Int) : Nat := if 240 <= c /\ c <= 244 then 4 else if 224 <= c /\ c <= 239 then 3 else if 194 <= c /\ c <= 223 then 2 else if c <= 127 then 1 else 0
def conU (f : Int) (i : Nat) (c : Int) : Bool :=
 if i = 1 then (if f = 224 then decide (160 <= c) && decide (c <= 191) else if f = 237 then decide (128 <= c) && decide (c <= 159) else if f = 240 then decide (144 <= c) && decide (c <= 191) else if f = 244 then decide (128 <= c) && decide (c <= 143) else decide (128 <= c) && decide (c <= 191))
 else decide (128 <= c) && decide (c <= 191)
def okU (s : ByteArray) : Prop := lenU (at8 s 0) ≠ 0 /\ lenU (at8 s 0) <= s.size /\ ∀ i, 1 <= i -> i < lenU (at8 s 0) -> conU (at8 s 0) i (at8 s i) = true
def v0U (n : Nat) (c : Int) : Int := if n = 1 then c else if n = 2 then c - 192 else if n = 3 then c - 224 else c - 240
def valU (s : ByteArray) (n : Nat) : Nat -> Int
 | 0 => 0
 | 1 => v0U n (at8 s 0)
 | k + 2 => 64 * valU s n (k + 1) + at8 s (k + 1) - 128
noncomputable def u8R (s : ByteArray) : Option (Int × Nat) := open Classical in if okU s then some (valU s (lenU (at8 s 0)) (lenU (at8 s 0)), lenU (at8 s 0)) else none
theorem lenU_le (c : Int) : lenU c <= 4 := by unfold lenU; (repeat' split) <;> omega
theorem u8R_pos {s : ByteArray} {r : Int} {n : Nat} (h : u8R s = some (r, n)) : 1 <= n /\ n <= s.size := by
 unfold u8R at h
 split at h
 ·rename_i hk
  cases h
  have := hk.1
  exact ⟨by omega, hk.2.1⟩
 ·cases h
theorem conU_bd {f : Int} {i : Nat} {c : Int} (h : conU f i c = true) : 128 <= c /\ c <= 191 := by
 unfold conU at h
 repeat' split at h
 all_goals
  simp only [Bool.and_eq_true, decide_eq_true_eq] at h
  omega
theorem conU_val {s : ByteArray} (h : okU s) : ∀ i, 1 <= i -> i < lenU (at8 s 0) -> 128 <= at8 s i /\ at8 s i <= 191 := fun i h1 h2 => conU_bd (h.2.2 i h1 h2)
def leadN (c : Int) : Nat := if c < 128 then 1 else if 192 <= c /\ c < 224 then 2 else if 224 <= c /\ c < 240 then 3 else if 240 <= c /\ c < 248 then 4 else 0
def leastU (n : Nat) : Int := if n = 2 then 128 else if n = 3 then 2048 else if n = 4 then 65536 else 0
def mostU (n : Nat) : Int := if n = 1 then 127 else if n = 2 then 2047 else if n = 3 then 65535 else if n = 4 then 1114111 else 0
def loU (v : Int) : Nat -> Int
 | 0 => v
 | k + 1 => loU (64 * v) k
def hiU (v : Int) : Nat -> Int
 | 0 => v
 | k + 1 => hiU (64 * v + 63) k
def contS (s : ByteArray) : Prop := ∀ i, 1 <= i -> i < s.size -> 128 <= at8 s i /\ at8 s i <= 191
def badU (n : Nat) (lo hi : Int) : Bool := (decide ((if leastU n > lo then leastU n else lo) ≥ 55296) && decide ((if mostU n < hi then mostU n else hi) <= 57343)) || decide ((if leastU n > lo then leastU n else lo) > if mostU n < hi then mostU n else hi)
def begP (s : ByteArray) : Prop := leadN (at8 s 0) ≠ 0 /\ s.size <= leadN (at8 s 0) /\ contS s /\ badU (leadN (at8 s 0)) (loU (valU s (leadN (at8 s 0)) s.size) (leadN (at8 s 0) - s.size)) (hiU (valU s (leadN (at8 s 0)) s.size) (leadN (at8 s 0) - s.size)) = false
theorem beg_key : ∀ c : Fin 256, (leadN (c.val : Int) ≠ 0 /\ badU (leadN (c.val : Int)) (loU (v0U (leadN (c.val : Int)) (c.val : Int)) (leadN (c.val : Int) - 1)) (hiU (v0U (leadN (c.val : Int)) (c.val : Int)) (leadN (c.val : Int) - 1)) = false) ↔ lenU (c.val : Int) ≠ 0 := by decide +kernel
theorem beg_one {s : ByteArray} (hs : s.size = 1) : begP s ↔ lenU (at8 s 0) ≠ 0 := by
 have hb := at8_bd s 0
 have hv : valU s (leadN (at8 s 0)) s.size = v0U (leadN (at8 s 0)) (at8 s 0) := by rw [hs]; rfl
 have hc : contS s := fun i h1 h2 => by omega
 unfold begP
 rw [hv, hs]
 generalize at8 s 0 = c at hb
 have key := beg_key ⟨c.toNat, by omega⟩
 have e : ((c.toNat : Nat) : Int) = c := by omega
 simp only [e] at key
 constructor
 ·rintro ⟨a1, _, _, a4⟩
  exact key.1 ⟨a1, a4⟩
 ·intro h
  obtain ⟨a1, a4⟩ := key.2 h
  exact ⟨a1, by omega, hc, a4⟩
theorem lead_key : ∀ c : Fin 256, lenU (c.val : Int) ≠ 0 -> leadN (c.val : Int) = lenU (c.val : Int) := by decide +kernel
theorem lead_len {c : Int} (hc : 0 <= c /\ c <= 255) (h : lenU c ≠ 0) : leadN c = lenU c := by
 have key := lead_key ⟨c.toNat, by omega⟩
 have e : ((c.toNat : Nat) : Int) = c := by omega
 simp only [e] at key
 exact key h
theorem lenU_key : ∀ c : Fin 256, lenU (c.val : Int) ≠ 0 -> (lenU (c.val : Int) = 1 /\ (c.val : Int) <= 127) \/ (lenU (c.val : Int) = 2 /\ 194 <= (c.val : Int) /\ (c.val : Int) <= 223) \/ (lenU (c.val : Int) = 3 /\ 224 <= (c.val : Int) /\ (c.val : Int) <= 239) \/ (lenU (c.val : Int) = 4 /\ 240 <= (c.val : Int) /\ (c.val : Int) <= 244) := by decide +kernel
theorem lenU_cases {c : Int} (hc : 0 <= c /\ c <= 255) (h : lenU c ≠ 0) : (lenU c = 1 /\ c <= 127) \/ (lenU c = 2 /\ 194 <= c /\ c <= 223) \/ (lenU c = 3 /\ 224 <= c /\ c <= 239) \/ (lenU c = 4 /\ 240 <= c /\ c <= 244) := by
 have key := lenU_key ⟨c.toNat, by omega⟩
 have e : ((c.toNat : Nat) : Int) = c := by omega
 simp only [e] at key
 exact key h
theorem badU_eq {n : Nat} {v : Int} : badU n v v = false ↔ ¬ ((55296 <= (if leastU n > v then leastU n else v) /\ (if mostU n < v then mostU n else v) <= 57343) \/ (if leastU n > v then leastU n else v) > (if mostU n < v then mostU n else v)) := by
 unfold badU
 simp
theorem beg_full {s : ByteArray} (h0 : lenU (at8 s 0) ≠ 0) (hs : s.size = lenU (at8 s 0)) : begP s ↔ okU s := by
 have hb := at8_bd s 0
 have b1 := at8_bd s 1
 have b2 := at8_bd s 2
 have b3 := at8_bd s 3
 have hl := lead_len hb h0
 unfold begP okU
 rw [hl, hs, Nat.sub_self]
 show _ /\ _ /\ contS s /\ badU (lenU (at8 s 0)) (valU s (lenU (at8 s 0)) (lenU (at8 s 0))) (valU s (lenU (at8 s 0)) (lenU (at8 s 0))) = false ↔ _
 rw [badU_eq]
 rcases lenU_cases hb h0 with ⟨e, h⟩ | ⟨e, h1, h2⟩ | ⟨e, h1, h2⟩ | ⟨e, h1, h2⟩
 ·rw [e] at hs ⊢
  have hv : valU s 1 1 = at8 s 0 := rfl
  rw [hv]
  refine ⟨fun ⟨a1, a2, a3, a4⟩ => ⟨a1, a2, fun i h1 h2 => by omega⟩, fun ⟨a1, a2, a3⟩ => ⟨a1, a2, fun i h1 h2 => by omega, ?_⟩⟩
  simp only [leastU, mostU]
  simp
  (repeat' split) <;> omega
 ·rw [e] at hs ⊢
  have hv : valU s 2 2 = 64 * (at8 s 0 - 192) + at8 s 1 - 128 := rfl
  rw [hv]
  have hc : ∀ c, conU (at8 s 0) 1 c = (decide (128 <= c) && decide (c <= 191)) := fun c => by
   unfold conU
   rw [if_pos rfl, if_neg (by omega), if_neg (by omega), if_neg (by omega), if_neg (by omega)]
  refine ⟨fun ⟨a1, a2, a3, a4⟩ => ⟨a1, a2, fun i h1 h2 => ?_⟩, fun ⟨a1, a2, a3⟩ => ?_⟩
  ·obtain rfl : i = 1 := by omega
   have := a3 1 (by omega) (by omega)
   rw [hc]; simp; omega
  ·have h3 := conU_bd (a3 1 (by omega) (by omega))
   refine ⟨a1, a2, fun i h1 h2 => ?_, ?_⟩
   ·obtain rfl : i = 1 := by omega
    exact h3
   ·simp only [leastU, mostU]
    simp
    (repeat' split) <;> omega
 ·rw [e] at hs ⊢
  have hv : valU s 3 3 = 64 * (64 * (at8 s 0 - 224) + at8 s 1 - 128) + at8 s 2 - 128 := rfl
  rw [hv]
  have hc2 : ∀ c, conU (at8 s 0) 2 c = (decide (128 <= c) && decide (c <= 191)) := fun c => by
   unfold conU
   rw [if_neg (by decide)]
  refine ⟨fun ⟨a1, a2, a3, a4⟩ => ⟨a1, a2, fun i h1 h2 => ?_⟩, fun ⟨a1, a2, a3⟩ => ?_⟩
  ·have c1 := a3 1 (by omega) (by omega)
   have c2 := a3 2 (by omega) (by omega)
   obtain rfl | rfl : i = 1 \/ i = 2 := by omega
   ·simp only [leastU, mostU] at a4
    simp at a4
    unfold conU
    rw [if_pos rfl]
    by_cases k1 : at8 s 0 = 224
    ·rw [if_pos k1]; simp; (repeat' split at a4) <;> omega
    rw [if_neg k1]
    by_cases k2 : at8 s 0 = 237
    ·rw [if_pos k2]; simp; (repeat' split at a4) <;> omega
    rw [if_neg k2, if_neg (by omega), if_neg (by omega)]
    simp; omega
   ·rw [hc2]; simp; omega
  ·have h3 := a3 1 (by omega) (by omega)
   have h4 := conU_bd h3
   have h5 := conU_bd (a3 2 (by omega) (by omega))
   refine ⟨a1, a2, fun i h1 h2 => ?_, ?_⟩
   ·obtain rfl | rfl : i = 1 \/ i = 2 := by omega
    ·exact h4
    ·exact h5
   ·unfold conU at h3
    rw [if_pos rfl] at h3
    simp only [leastU, mostU]
    simp
    (repeat' split at h3) <;> simp at h3 <;> (repeat' split) <;> omega
 ·rw [e] at hs ⊢
  have hv : valU s 4 4 = 64 * (64 * (64 * (at8 s 0 - 240) + at8 s 1 - 128) + at8 s 2 - 128) + at8 s 3 - 128 := rfl
  rw [hv]
  have hc2 : ∀ i c, 2 <= i -> conU (at8 s 0) i c = (decide (128 <= c) && decide (c <= 191)) := fun i c hi => by
   unfold conU
   rw [if_neg (by omega)]
  refine ⟨fun ⟨a1, a2, a3, a4⟩ => ⟨a1, a2, fun i h1 h2 => ?_⟩, fun ⟨a1, a2, a3⟩ => ?_⟩
  ·have c1 := a3 1 (by omega) (by omega)
   have c2 := a3 2 (by omega) (by omega)
   have c3 := a3 3 (by omega) (by omega)
   obtain rfl | hi : i = 1 \/ 2 <= i := by omega
   ·simp only [leastU, mostU] at a4
    simp at a4
    unfold conU
    rw [if_pos rfl, if_neg (by omega), if_neg (by omega)]
    by_cases k1 : at8 s 0 = 240
    ·rw [if_pos k1]; simp; (repeat' split at a4) <;> omega
    rw [if_neg k1]
    by_cases k2 : at8 s 0 = 244
    ·rw [if_pos k2]; simp; (repeat' split at a4) <;> omega
    rw [if_neg k2]
    simp; omega
   ·have := a3 i (by omega) (by omega)
    rw [hc2 _ _ hi]; simp; omega
  ·have h3 := a3 1 (by omega) (by omega)
   have h4 := conU_bd h3
   have h5 := conU_bd (a3 2 (by omega) (by omega))
   have h6 := conU_bd (a3 3 (by omega) (by omega))
   refine ⟨a1, a2, fun i h1 h2 => conU_bd (a3 i h1 (by omega)), ?_⟩
   unfold conU at h3
   rw [if_pos rfl] at h3
   simp only [leastU, mostU]
   simp
   (repeat' split at h3) <;> simp at h3 <;> (repeat' split) <;> omega
end Go.Proofs.YtfacflbmlfbeeaaGreatDoor
