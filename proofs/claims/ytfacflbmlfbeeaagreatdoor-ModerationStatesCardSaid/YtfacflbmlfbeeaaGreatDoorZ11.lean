/- Chapter 39: the contract of the reference's submit. Printed by mkxsub39.py. Bytes are bytes; lists are not too long. -/
import Derived.Test.YtfacflbmlfbeeaaGreatDoorZ10
import Derived.Test.YtfacflbmlfbeeaaGreatDoorProg
import Derived.Test.YtfacflbmlfbeeaaGreatDoorZ02
import Derived.Test.YtfacflbmlfbeeaaGreatDoorZ04
import Derived.Test.YtfacflbmlfbeeaaGreatDoorZ03
import Derived.KernelRfl
import Derived.Test.YtfacflbmlfbeeaaGreatDoorZ05
namespace Go.Proofs.YtfacflbmlfbeeaaGreatDoor
open Go.RowKit Go.Sort Go.Maps

theorem enC_one (x : En) : ∀ v ∈ enC x, v.oneCell' = true := fun v hv => by
  unfold enC at hv
  rcases List.mem_append.1 hv with h | h
  · exact arr_one x.s.id 32 v h
  rcases List.mem_append.1 h with h | h
  · simp only [List.mem_cons, List.not_mem_nil, or_false] at h
    rcases h with h | h | h | h <;> (subst h; rfl)
  rcases List.mem_append.1 h with h | h
  · exact arr_one x.s.mo 16 v h
  rcases List.mem_append.1 h with h | h
  · simp only [List.mem_cons, List.not_mem_nil, or_false] at h
    rcases h with h | h | h <;> (subst h; rfl)
  rcases List.mem_append.1 h with h | h
  · exact arr_one x.ho 16 v h
  · simp only [List.mem_cons, List.not_mem_nil, or_false] at h
    subst h; rfl
theorem enCs_one (l : List En) : ∀ u ∈ l.flatMap enC, u.oneCell' = true := fun u hu => by
  obtain ⟨z, _, hz⟩ := List.mem_flatMap.1 hu
  exact enC_one z u hz
theorem enC_flat (l : List En) : (l.flatMap enC).length = l.length * 72 := len_flat enC 72 l (fun _ _ => rfl)
theorem src_en {w : World} {n : Nat} {x : En} {t : TypeId} {f : Nat × Nat} (h : w.heap[n]? = some (.cells (enC x).toArray t f)) : SrcP w (some ⟨n, 0, none⟩) (enC x) := src_block h (enC_one x)
set_option maxRecDepth 100000 in
set_option maxHeartbeats 16000000 in
theorem xsubmit_any {w : World} {B m : Nat} {M : Mo} {P : Pl} (h : MoR w B m M P) (ho : M.OK) (hs : M.es.Pairwise fun x y => cfM x.s y.s < 0) (f : Nat → Int) (hf : BY f) (g tx : ByteArray) (now : Int) :
    Calls Tryz.prog 26 #[.pointer (some ⟨m, 0, none⟩), .agg (arrI .u8 f 32 0).toArray, .string g, .string tx, .int .i64 now] w fun e w' => e = .returned (.int .i64 (xsubE M f g tx now)) ∧ ((xsubE M f g tx now ≠ 0 ∧ MoR w' B m M P) ∨ (xsubE M f g tx now = 0 ∧ ∃ (L : List En) (P' : Pl), L.Perm (newE f g tx now :: M.es) ∧ (L.Pairwise fun x y => cfM x.s y.s < 0) ∧ MoR w' B m { M with es := L } P')) ∧ Kp (MF w B) w w' := by
  refine vc_xsubmit m f g tx now w _ (fun n W hW => ?_)
  have kW : K0 w W := hW.kk rfl
  clear hW
  have hel := ho.el
  have hgl := ho.gl
  have hfin : ∀ (E : Int), xsubE M f g tx now = E → E ≠ 0 → ∀ w', K0 w w' → Ending.returned (.int .i64 E) = Ending.returned (.int .i64 (xsubE M f g tx now)) ∧ ((xsubE M f g tx now ≠ 0 ∧ MoR w' B m M P) ∨ (xsubE M f g tx now = 0 ∧ ∃ (L : List En) (P' : Pl), L.Perm (newE f g tx now :: M.es) ∧ (L.Pairwise fun x y => cfM x.s y.s < 0) ∧ MoR w' B m { M with es := L } P')) ∧ Kp (MF w B) w w' := fun E hE hn w' k => by
    rw [hE]
    exact ⟨rfl, .inl ⟨hn, h.k0 k⟩, .mf0 k⟩
  refine ⟨(xmin_any now W).mono fun e w1 ⟨he, k1⟩ => ⟨_, he, .of_k0 k1, bsp_intro (fun h1 => ?_) (fun h1 => ?_)⟩⟩
  · exact hfin 2 (by unfold xsubE; rw [if_pos (minB_ft h1)]) (by decide) _ (kW.trans k1)
  have h1 := minB_ff h1
  have hn1 : ¬ minB now = false := by rw [h1]; decide
  have k01 := kW.trans k1
  refine ⟨(xgcheck_any g w1).mono fun e w2 ⟨he, k2⟩ => ⟨_, he, .of_k0 k2, bsp_intro (fun h2 => ?_) (fun h2 => bsp_intro (fun h3 => ?_) (fun h3 => ?_))⟩⟩
  · have h2 : gnE g ≠ 0 := by simpa using h2
    exact hfin (gnE g) (by unfold xsubE; rw [if_neg hn1, if_pos h2]) h2 _ (k01.trans k2)
  · have h2 : gnE g = 0 := by simpa using h2
    have h3 : 65536 < tx.size := by simp at h3; omega
    exact hfin 5 (by unfold xsubE; rw [if_neg hn1, if_neg (by omega), if_pos h3]) (by decide) _ (k01.trans k2)
  have h2 : gnE g = 0 := by simpa using h2
  have h3 : ¬ 65536 < tx.size := by simp at h3; omega
  have hgs := gnE_sz39 h2
  have k02 := k01.trans k2
  refine ⟨(xmods_any (h.k0 k02) (by omega) g).mono fun e w3 ⟨he, k3⟩ => ⟨_, _, _, he, .of_k0 k3, bsp_intro (fun h4 => ?_) (fun h4 => ?_)⟩⟩
  · have h4 : (M.md g).l.length = 0 := by simp at h4; simp [h4]
    exact hfin 33 (by unfold xsubE; rw [if_neg hn1, if_neg (by omega), if_neg h3, if_pos h4]) (by decide) _ (k02.trans k3)
  have h4 : ¬ (M.md g).l.length = 0 := by intro e; rw [e] at h4; exact absurd h4 (by decide)
  have k03 := k02.trans k3
  refine ⟨(xfind39_any (h.k0 k03) (by omega) f hf (fun x hx => (ho.es x hx).1.s.id) g).mono fun e w4 ⟨hfd, k4⟩ => ?_⟩
  have k04 := k03.trans k4
  rcases hfd with ⟨he, hno⟩ | ⟨i, y, he, hy, hky⟩
  rotate_left
  · refine ⟨_, he, .of_k0 k4, bsp_intro (fun _ => hfin 7 ?_ (by decide) _ k04) (fun h => ?_)⟩
    · have hfd : M.fd (idI f, g) = some y := dis_fd ho.dis hy hky
      unfold xsubE
      rw [if_neg hn1, if_neg (by omega), if_neg h3, if_neg h4, hfd]
      rfl
    · have := of_decide_eq_false h
      exfalso; omega
  have hfd : M.fd (idI f, g) = none := no_fd hno
  refine ⟨_, he, .of_k0 k4, bsp_intro (fun h => absurd h (by decide)) (fun _ W5 hW5 => ?_)⟩
  have k5 : K0 w W5 := hW5.k0 k04
  have h5 := h.k0 k5
  refine ⟨fun wx => K0 W5 wx, .refl _ _, M.room, fun wx k => (h5.k0 k).cR, ⟨(xlist_any h5 (by omega) ⟨#[]⟩ 0).mono fun e w6 ⟨⟨p6, c6, he, _⟩, k6⟩ => ⟨_, _, _, he, k6, .of_k0 k6, bsp_intro (fun h7 => ?_) (fun h7 n3 W7 hW7 => ?_)⟩⟩⟩
  · have h7 : M.room ≤ ((M.ls ⟨#[]⟩ 0).length : Nat) := by simpa using h7
    exact hfin 9 (by unfold xsubE; rw [if_neg hn1, if_neg (by omega), if_neg h3, if_neg h4, if_neg (by rw [hfd]; decide), if_pos h7]) (by decide) _ (k5.trans k6)
  have h7 : ¬ M.room ≤ ((M.ls ⟨#[]⟩ 0).length : Nat) := by simpa using h7
  have h0 : xsubE M f g tx now = 0 := by unfold xsubE; rw [if_neg hn1, if_neg (by omega), if_neg h3, if_neg h4, if_neg (by rw [hfd]; decide), if_neg h7]
  have k7 : K0 w W7 := hW7.k0 (k5.trans k6)
  clear hfin
  have h77 := h.k0 k7
  have hesid : ∀ y ∈ M.es, BY y.s.id := fun y hy => (ho.es y hy).1.s.id
  refine ⟨fun vs w' => ∃ a : Nat, vs = [.int .i64 (a : Int)] ∧ a ≤ M.es.length ∧ (∀ (j : Nat) (y : En), j < a → M.es[j]? = some y → cfM y.s (newE f g tx now).s < 0) ∧ K0 W7 w', fun vs _ => (match vs with | .int _ a :: _ => M.es.length - a.toNat | _ => 0), ⟨0, rfl, by omega, (fun j y h => by omega), .refl _ _⟩, ?_⟩
  rintro xa w8 ⟨a, hv, hal, hlow, k8⟩ hL8
  simp only [List.cons.injEq, Value.int.injEq, true_and, and_true] at hv
  subst hv
  clear hW5 hW7 hL8
  have h8 := h77.k0 k8
  rw [Int.toNat_natCast]
  refine ⟨_, _, _, fun Wx hx => (h8.k0 (hx.kk rfl)).cE, ?_⟩
  rcases Nat.lt_or_ge a M.es.length with hlt | hge
  · have hd : decide ((a : Int) < (M.es.length : Int)) = true := by simp; omega
    obtain ⟨y, b, o, hy, hpy, haty⟩ := h8.rowE.get hlt
    have hym := List.mem_of_getElem? hy
    simp only [hd]
    refine ⟨_, _, _, gimp_intro fun _ Wx hx => (h8.k0 (hx.kk rfl)).cE, nn_is hpy ⟨gimp_intro fun _ => ⟨by omega, by omega⟩, y.s.id, y.s.g, y.s.tx, y.s.r, y.s.st, y.s.mo, y.s.de, y.s.rs, gimp_intro fun _ Wx hx => sb_left _ (haty.k0 (hx.kk rfl)), fun W9 hW9 => bsp_intro (fun _ => ?_) (fun h => by cases h)⟩⟩
    have k9 : K0 w8 W9 := hW9.kk rfl
    clear hW9
    refine ⟨(xbefore_any y.s (newE f g tx now).s (hesid y hym) hf (by have := (ho.es y hym).2; omega) (by show g.size ≤ _; omega) W9).mono fun e w10 ⟨he, k10⟩ => ⟨_, he, .of_k0 k10, bsp_intro (fun hc => ?_) (fun hc Wr hWr => ?_)⟩⟩
    · have hc : cfM y.s (newE f g tx now).s < 0 := by simpa using hc
      rw [inc64 (by omega)]
      refine ⟨⟨a + 1, rfl, hlt, fun j z hj hz => ?_, k8.trans (k9.trans k10)⟩, by simp only [Int.toNat_natCast]; omega⟩
      by_cases e : j = a
      · subst e; rw [hy] at hz; cases hz; exact hc
      · exact hlow j z (by omega) hz
    · have hc : ¬ cfM y.s (newE f g tx now).s < 0 := by simpa using hc
      have k11 : K0 W7 Wr := (k8.trans (k9.trans k10)).trans (hWr.kk rfl : K0 w10 Wr)
      have hsrt : (insL M.es a (newE f g tx now)).Pairwise fun x y => cfM x.s y.s < 0 := ins_sort cfE_ord hs hlow (fun z hz => by
        rw [hy] at hz
        cases hz
        have e1 := cfM_ord.anti (newE f g tx now).s y.s
        have e2 : cfM y.s (newE f g tx now).s ≠ 0 := fun e => hno y hym (ky_eq (hesid y hym) hf e)
        omega)

      have kr : K0 w Wr := k7.trans k11
      have hMr := h.k0 kr
      have hew := hMr.ew
      have hc0 := hWr.cells 0 rfl
      have hc1 := hWr.cells 1 rfl
      have hle := own_le hew
      have hBW : B ≤ Wr.heap.size := Nat.le_of_lt (Nat.lt_of_le_of_lt h.ge (block_lt hMr.st))
      have hT : ((M.es.flatMap enC).take (a * 72)).length = a * 72 := by rw [List.length_take, enC_flat]; omega
      have hD : ((M.es.flatMap enC).drop (a * 72)).length = (M.es.length - a) * 72 := by rw [List.length_drop, enC_flat]; omega
      have hst : ∀ {wx : World}, K0 Wr wx → SrcP wx P.ep ((M.es.flatMap enC).take (a * 72)) := fun k => src_take (owns_kp hew k (fun _ _ h => h)) (enCs_one M.es) _
      have hsd : ∀ {wx : World}, K0 Wr wx → SrcP wx (slA P.ep P.ec a 72) ((M.es.flatMap enC).drop (a * 72)) := fun k => src_drop (owns_kp hew k (fun _ _ h => h)) (enCs_one M.es) hal
      have fin : ∀ (p' : Option Addr) (c' : Nat) (w9 : World), w9.ownsRow Wr.heap.size 91 72 (.slice p' (0 + a + 1 + (M.es.length - a)) c') (0 + a + 1 + (M.es.length - a)) ((([] ++ (M.es.flatMap enC).take (a * 72)) ++ enC (newE f g tx now)) ++ (M.es.flatMap enC).drop (a * 72)) → K0 Wr w9 → ((∃ u : Value, w9.cell? ⟨m, 0 + 3, none⟩ = some u) ∧ w9.frozen? ⟨m, 0 + 3, none⟩ = false) ∧ ∀ w1 : World, PutB w9 m (0 + 3) [.slice p' (0 + a + 1 + (M.es.length - a)) c'] w1 → KeptL [n3, n] Wr w1 ∧ Ending.returned (.int .i64 0) = Ending.returned (.int .i64 (xsubE M f g tx now)) ∧ ((xsubE M f g tx now ≠ 0 ∧ MoR w1 B m M P) ∨ (xsubE M f g tx now = 0 ∧ ∃ (L : List En) (P' : Pl), L.Perm (newE f g tx now :: M.es) ∧ (L.Pairwise fun x y => cfM x.s y.s < 0) ∧ MoR w1 B m { M with es := L } P')) ∧ Kp (MF w B) w w1 := fun p' c' w9 o9 k9 => by
        have h9 := hMr.k0 k9
        refine ⟨cell_wr h9.st (by show 0 + 3 < 4; omega), fun w1 hput => ?_⟩
        rw [List.nil_append, insL_flat enC 72 M.es a (newE f g tx now) enC_length] at o9
        have o9' := own_base o9 hBW
        obtain ⟨hM1, kk1⟩ := h9.newe (L := insL M.es a (newE f g tx now)) (p := p') (c := c') (by rw [insL_len hal]; exact o9') (by rw [insL_len hal]; exact hput)
        refine ⟨.of_kp ((Kp.mf0 k9).mft kk1) (fun z hz => ?_), by rw [h0], .inr ⟨h0, insL M.es a (newE f g tx now), _, insL_perm _ _ _, hsrt, hM1⟩, (Kp.mf0 (kr.trans k9)).mft kk1⟩
        simp only [List.mem_cons, List.not_mem_nil, or_false] at hz
        rcases hz with rfl | rfl
        · exact mf_no hc0 rfl
        · exact mf_no hc1 rfl

      refine ⟨fun wx => K0 Wr wx, .refl _ _, _, _, _, fun wx k => (hMr.k0 k).cE, ⟨by omega, by omega⟩, f, g, tx, now, 0, fun _ => 0, 0, ⟨#[]⟩, fun wx k => AtL_block (k.blk hc0 (fun h => h)) rfl, _, _, _, fun wx k => (hMr.k0 k).cE, ⟨by omega, by omega⟩, ?_, ?_⟩
      · exact fun n6 w6 h6 => ⟨h6.kp _,
          app_own (w0 := Wr) (E := 152) (m := a) (own_none h6.ge h6.block) (h6.kp _) (by omega) (by omega) hT (hst (h6.kp _)) (fun p7 c7 w7 o7 k7 _ => ⟨k7, fun n8 w8 h8 => ⟨k7.trans (h8.kp _),
            app_own (E := 152) (m := 1) (owns_kp o7 (h8.kp (fun _ => False)) (fun _ _ h => h)) (k7.trans (h8.kp _)) (by omega) (by omega) rfl (src_en (x := newE f g tx now) h8.block) (fun p9 c9 w9 o9 k9 _ => ⟨k9,
              app_own (E := 152) (m := M.es.length - a) o9 k9 (by omega) (by omega) hD (hsd k9) (fun pa ca wa oa ka _ => fin pa ca wa oa ka)⟩)⟩⟩),
          fun n7 w7 h7 => ⟨(h6.kp _).trans (h7.kp _), app_own (w0 := Wr) (E := 152) (m := a) (own_none h6.ge ((h7.kp (fun _ => False)).blk h6.block (fun h => h))) ((h6.kp _).trans (h7.kp _)) (by omega) (by omega) hT (hst ((h6.kp _).trans (h7.kp _))) (fun p8 c8 w8 o8 k8 g8 => ⟨k8,
            app_own (E := 152) (m := 1) o8 k8 (by omega) (by omega) rfl (src_en (x := newE f g tx now) (g8.blk h7.block (fun e => by have := own_n39 e; have := h6.size; have := h7.ge; omega))) (fun p9 c9 w9 o9 k9 _ => ⟨k9,
              app_own (E := 152) (m := M.es.length - a) o9 k9 (by omega) (by omega) hD (hsd k9) (fun pa ca wa oa ka _ => fin pa ca wa oa ka)⟩)⟩)⟩⟩
      · exact fun n6 w6 h6 => ⟨h6.kp _, fun n7 w7 h7 => ⟨(h6.kp _).trans (h7.kp _),
          app_own (w0 := Wr) (E := 152) (m := a) (own_none (Nat.le_trans (h6.kp (fun _ => False)).size h7.ge) h7.block) ((h6.kp _).trans (h7.kp _)) (by omega) (by omega) hT (hst ((h6.kp _).trans (h7.kp _))) (fun p8 c8 w8 o8 k8 g8 => ⟨k8,
            app_own (E := 152) (m := 1) o8 k8 (by omega) (by omega) rfl (src_en (x := newE f g tx now) (g8.blk ((h7.kp (fun _ => False)).blk h6.block (fun h => h)) (fun e => by have := own_n39 e; have := h6.size; have := h7.ge; omega))) (fun p9 c9 w9 o9 k9 _ => ⟨k9,
              app_own (E := 152) (m := M.es.length - a) o9 k9 (by omega) (by omega) hD (hsd k9) (fun pa ca wa oa ka _ => fin pa ca wa oa ka)⟩)⟩)⟩⟩

  · have hd : decide ((a : Int) < (M.es.length : Int)) = false := by simp; omega
    simp only [hd]
    refine ⟨none, 0, 0, gimp_neg rfl, nn_neg rfl fun _ _ => ⟨gimp_neg rfl, fun _ => 0, ⟨#[]⟩, ⟨#[]⟩, 0, 0, fun _ => 0, 0, ⟨#[]⟩, gimp_neg rfl, fun W9 hW9 => bsp_intro (fun h => by cases h) (fun _ => ⟨.refl _ _, fun Wr hWr => ?_⟩)⟩⟩
    · have k11 : K0 W7 Wr := (k8.trans (hW9.kk rfl : K0 w8 W9)).trans (hWr.kk rfl : K0 W9 Wr)
      clear hW9
      have hsrt : (insL M.es a (newE f g tx now)).Pairwise fun x y => cfM x.s y.s < 0 := ins_sort cfE_ord hs hlow (fun z hz => by
        rw [List.getElem?_eq_none (by omega)] at hz
        cases hz)

      have kr : K0 w Wr := k7.trans k11
      have hMr := h.k0 kr
      have hew := hMr.ew
      have hc0 := hWr.cells 0 rfl
      have hc1 := hWr.cells 1 rfl
      have hle := own_le hew
      have hBW : B ≤ Wr.heap.size := Nat.le_of_lt (Nat.lt_of_le_of_lt h.ge (block_lt hMr.st))
      have hT : ((M.es.flatMap enC).take (a * 72)).length = a * 72 := by rw [List.length_take, enC_flat]; omega
      have hD : ((M.es.flatMap enC).drop (a * 72)).length = (M.es.length - a) * 72 := by rw [List.length_drop, enC_flat]; omega
      have hst : ∀ {wx : World}, K0 Wr wx → SrcP wx P.ep ((M.es.flatMap enC).take (a * 72)) := fun k => src_take (owns_kp hew k (fun _ _ h => h)) (enCs_one M.es) _
      have hsd : ∀ {wx : World}, K0 Wr wx → SrcP wx (slA P.ep P.ec a 72) ((M.es.flatMap enC).drop (a * 72)) := fun k => src_drop (owns_kp hew k (fun _ _ h => h)) (enCs_one M.es) hal
      have fin : ∀ (p' : Option Addr) (c' : Nat) (w9 : World), w9.ownsRow Wr.heap.size 91 72 (.slice p' (0 + a + 1 + (M.es.length - a)) c') (0 + a + 1 + (M.es.length - a)) ((([] ++ (M.es.flatMap enC).take (a * 72)) ++ enC (newE f g tx now)) ++ (M.es.flatMap enC).drop (a * 72)) → K0 Wr w9 → ((∃ u : Value, w9.cell? ⟨m, 0 + 3, none⟩ = some u) ∧ w9.frozen? ⟨m, 0 + 3, none⟩ = false) ∧ ∀ w1 : World, PutB w9 m (0 + 3) [.slice p' (0 + a + 1 + (M.es.length - a)) c'] w1 → KeptL [n3, n] Wr w1 ∧ Ending.returned (.int .i64 0) = Ending.returned (.int .i64 (xsubE M f g tx now)) ∧ ((xsubE M f g tx now ≠ 0 ∧ MoR w1 B m M P) ∨ (xsubE M f g tx now = 0 ∧ ∃ (L : List En) (P' : Pl), L.Perm (newE f g tx now :: M.es) ∧ (L.Pairwise fun x y => cfM x.s y.s < 0) ∧ MoR w1 B m { M with es := L } P')) ∧ Kp (MF w B) w w1 := fun p' c' w9 o9 k9 => by
        have h9 := hMr.k0 k9
        refine ⟨cell_wr h9.st (by show 0 + 3 < 4; omega), fun w1 hput => ?_⟩
        rw [List.nil_append, insL_flat enC 72 M.es a (newE f g tx now) enC_length] at o9
        have o9' := own_base o9 hBW
        obtain ⟨hM1, kk1⟩ := h9.newe (L := insL M.es a (newE f g tx now)) (p := p') (c := c') (by rw [insL_len hal]; exact o9') (by rw [insL_len hal]; exact hput)
        refine ⟨.of_kp ((Kp.mf0 k9).mft kk1) (fun z hz => ?_), by rw [h0], .inr ⟨h0, insL M.es a (newE f g tx now), _, insL_perm _ _ _, hsrt, hM1⟩, (Kp.mf0 (kr.trans k9)).mft kk1⟩
        simp only [List.mem_cons, List.not_mem_nil, or_false] at hz
        rcases hz with rfl | rfl
        · exact mf_no hc0 rfl
        · exact mf_no hc1 rfl

      refine ⟨fun wx => K0 Wr wx, .refl _ _, _, _, _, fun wx k => (hMr.k0 k).cE, ⟨by omega, by omega⟩, f, g, tx, now, 0, fun _ => 0, 0, ⟨#[]⟩, fun wx k => AtL_block (k.blk hc0 (fun h => h)) rfl, _, _, _, fun wx k => (hMr.k0 k).cE, ⟨by omega, by omega⟩, ?_, ?_⟩
      · exact fun n6 w6 h6 => ⟨h6.kp _,
          app_own (w0 := Wr) (E := 152) (m := a) (own_none h6.ge h6.block) (h6.kp _) (by omega) (by omega) hT (hst (h6.kp _)) (fun p7 c7 w7 o7 k7 _ => ⟨k7, fun n8 w8 h8 => ⟨k7.trans (h8.kp _),
            app_own (E := 152) (m := 1) (owns_kp o7 (h8.kp (fun _ => False)) (fun _ _ h => h)) (k7.trans (h8.kp _)) (by omega) (by omega) rfl (src_en (x := newE f g tx now) h8.block) (fun p9 c9 w9 o9 k9 _ => ⟨k9,
              app_own (E := 152) (m := M.es.length - a) o9 k9 (by omega) (by omega) hD (hsd k9) (fun pa ca wa oa ka _ => fin pa ca wa oa ka)⟩)⟩⟩),
          fun n7 w7 h7 => ⟨(h6.kp _).trans (h7.kp _), app_own (w0 := Wr) (E := 152) (m := a) (own_none h6.ge ((h7.kp (fun _ => False)).blk h6.block (fun h => h))) ((h6.kp _).trans (h7.kp _)) (by omega) (by omega) hT (hst ((h6.kp _).trans (h7.kp _))) (fun p8 c8 w8 o8 k8 g8 => ⟨k8,
            app_own (E := 152) (m := 1) o8 k8 (by omega) (by omega) rfl (src_en (x := newE f g tx now) (g8.blk h7.block (fun e => by have := own_n39 e; have := h6.size; have := h7.ge; omega))) (fun p9 c9 w9 o9 k9 _ => ⟨k9,
              app_own (E := 152) (m := M.es.length - a) o9 k9 (by omega) (by omega) hD (hsd k9) (fun pa ca wa oa ka _ => fin pa ca wa oa ka)⟩)⟩)⟩⟩
      · exact fun n6 w6 h6 => ⟨h6.kp _, fun n7 w7 h7 => ⟨(h6.kp _).trans (h7.kp _),
          app_own (w0 := Wr) (E := 152) (m := a) (own_none (Nat.le_trans (h6.kp (fun _ => False)).size h7.ge) h7.block) ((h6.kp _).trans (h7.kp _)) (by omega) (by omega) hT (hst ((h6.kp _).trans (h7.kp _))) (fun p8 c8 w8 o8 k8 g8 => ⟨k8,
            app_own (E := 152) (m := 1) o8 k8 (by omega) (by omega) rfl (src_en (x := newE f g tx now) (g8.blk ((h7.kp (fun _ => False)).blk h6.block (fun h => h)) (fun e => by have := own_n39 e; have := h6.size; have := h7.ge; omega))) (fun p9 c9 w9 o9 k9 _ => ⟨k9,
              app_own (E := 152) (m := M.es.length - a) o9 k9 (by omega) (by omega) hD (hsd k9) (fun pa ca wa oa ka _ => fin pa ca wa oa ka)⟩)⟩)⟩⟩

end Go.Proofs.YtfacflbmlfbeeaaGreatDoor

/- The formulas of functions by the symbolic evaluator, and that each gives the call's contract. Written by a program (gen.py). No condition. -/
namespace Go.Proofs.YtfacflbmlfbeeaaGreatDoor
set_option maxRecDepth 100000
set_option linter.unusedVariables false

def VC_lstart (room : Int) (days : Int) (w : World) (R : Ending -> World -> Prop) : Prop := CallsS Tryz.prog 13 #[.int .i64 room, .int .i64 days] w fun (e : Ending) (w' : World) => ∃ (x : Option Addr) (x_1 : Int), e = .returned (.tuple #[.pointer x, .int .i64 x_1]) /\ KeptL [] w w' /\ ∀ (n : Nat) (W : World), Loc w.heap.size [Blk.mk n 57 [Value.int .i64 room, .int .i64 days, .slice none 0 0, .slice none 0 0] 2] w' W -> CallsS Tryz.prog 20 #[.int .u8 2] W fun (e : Ending) (w' : World) => ∃ (f : Nat -> Int), e = .returned (.agg (arrI .u8 f 16 0).toArray) /\ KeptL [n] W w' /\ CallsS Tryz.prog 20 #[.int .u8 0] w' fun (e : Ending) (w'_1 : World) => ∃ (f_1 : Nat -> Int), e = .returned (.agg (arrI .u8 f_1 16 0).toArray) /\ KeptL [n] w' w'_1 /\ CallsS Tryz.prog 20 #[.int .u8 1] w'_1 fun (e : Ending) (w' : World) => ∃ (f_2 : Nat -> Int), e = .returned (.agg (arrI .u8 f_2 16 0).toArray) /\
 KeptL [n] w'_1 w' /\ ∀ (n_1 : Nat) (W : World), Loc w.heap.size [Blk.mk n_1 45 (arrI .u8 f 16 0 ++ (arrI .u8 f_1 16 0 ++ (arrI .u8 f_2 16 0))) 2, Blk.mk n 57 [Value.int .i64 room, .int .i64 days, .slice none 0 0, .slice none 0 0] 0] w' W -> CallsS Tryz.prog 38 #[.pointer x, .string (ByteArray.mk #[103]), .slice (some (Addr.mk n_1 0 none)) 3 3] W fun (e : Ending) (w' : World) => ∃ (x_2 : Int), e = .returned (.int .i64 x_2) /\ KeptL [n] W w' /\ CallsS Tryz.prog 20 #[.int .u8 2] w' fun (e : Ending) (w'_2 : World) => ∃ (f : Nat -> Int), e = .returned (.agg (arrI .u8 f 16 0).toArray) /\ KeptL [n] w' w'_2 /\ CallsS Tryz.prog 20 #[.int .u8 0] w'_2 fun (e : Ending) (w' : World) => ∃ (f_3 : Nat -> Int), e = .returned (.agg (arrI .u8 f_3 16 0).toArray) /\ KeptL [n] w'_2 w' /\ CallsS Tryz.prog 20 #[.int .u8 1] w' fun (e : Ending) (w'_3 : World) => ∃ (f_4 : Nat -> Int), e = .returned (.agg
 (arrI .u8 f_4 16 0).toArray) /\ KeptL [n] w' w'_3 /\ ∀ (n_2 : Nat) (W : World), Loc w.heap.size [Blk.mk n_2 45 (arrI .u8 f 16 0 ++ (arrI .u8 f_3 16 0 ++ (arrI .u8 f_4 16 0))) 2, Blk.mk n 57 [Value.int .i64 room, .int .i64 days, .slice none 0 0, .slice none 0 0] 0] w'_3 W -> CallsS Tryz.prog 25 #[.pointer (some (Addr.mk n 0 none)), .string (ByteArray.mk #[103]), .slice (some (Addr.mk n_2 0 none)) 3 3] W fun (e : Ending) (w' : World) => ∃ (x_3 : Int), e = .returned (.int .i64 x_3) /\ KeptL [] W w' /\ CallsS Tryz.prog 20 #[.int .u8 1] w' fun (e : Ending) (w'_4 : World) => ∃ (f : Nat -> Int), e = .returned (.agg (arrI .u8 f 16 0).toArray) /\ KeptL [] w' w'_4 /\ ∀ (n_3 : Nat) (W : World), Loc w.heap.size [Blk.mk n_3 45 (arrI .u8 f 16 0) 2] w'_4 W -> CallsS Tryz.prog 38 #[.pointer x, .string (ByteArray.mk #[97, 46, 98]), .slice (some (Addr.mk n_3 0 none)) 1 1]
 W fun (e : Ending) (w' : World) => ∃ (x_4 : Int), e = .returned (.int .i64 x_4) /\ KeptL [] W w' /\ CallsS Tryz.prog 20 #[.int .u8 1] w' fun (e : Ending) (w'_5 : World) => ∃ (f : Nat -> Int), e = .returned (.agg (arrI .u8 f 16 0).toArray) /\ KeptL [] w' w'_5 /\ ∀ (n_4 : Nat) (W : World), Loc w.heap.size [Blk.mk n_4 45 (arrI .u8 f 16 0) 2] w'_5 W -> CallsS Tryz.prog 25 #[.pointer (some (Addr.mk n 0 none)), .string (ByteArray.mk #[97, 46, 98]), .slice (some (Addr.mk n_4 0 none)) 1 1] W fun (e : Ending) (w' : World) => ∃ (x_5 : Int), e = .returned (.int .i64 x_5) /\ KeptL [] W w' /\ R (.returned (.tuple #[.pointer x, .pointer (some (Addr.mk n 0 none))])) w'
theorem vc_lstart (room : Int) (days : Int) (w : World) (R : Ending -> World -> Prop) (h : VC_lstart room days w R) : Calls Tryz.prog 17 ([Value.int .i64 room, .int .i64 days] : List Value).toArray w R :=
 calls_of_exec2' (loops := []) (tails := []) (joins := []) (boxes := []) (rngs := []) (c := Tryz.f17.body.getD .skip) pur1_ok Tryz.func17 (by kernel_rfl) (by kernel_rfl) h

end Go.Proofs.YtfacflbmlfbeeaaGreatDoor

/- Chapter 39: the contract of the law's start: a queue and its model, with moderators of two groups. The library's variable MaxLen holds a number. -/
namespace Go.Proofs.YtfacflbmlfbeeaaGreatDoor
open Go.RowKit Go.Sort Go.Maps

def kAB : ByteArray := ⟨#[97, 46, 98]⟩
theorem au3 : ∀ z ∈ [auN 2, auN 0, auN 1], BY z ∧ NZ 16 z := fun z hz => by
  simp only [List.mem_cons, List.not_mem_nil, or_false] at hz
  rcases hz with rfl | rfl | rfl <;> exact auN_ok (by decide)
theorem au1 : ∀ z ∈ [auN 1], BY z ∧ NZ 16 z := fun z hz => au3 z (by
  simp only [List.mem_cons, List.not_mem_nil, or_false] at hz
  subst hz; simp)
theorem set3 : setE kG [auN 2, auN 0, auN 1] = 0 := by
  unfold setE
  rw [if_neg (by rw [k_gn]; decide), if_neg (by decide), if_pos]
  decide +kernel
theorem set1 : setE kAB [auN 1] = 0 := by
  unfold setE
  rw [if_neg (by decide +kernel), if_neg (by decide), if_pos]
  decide +kernel
theorem srt3 : ([auN 0, auN 1, auN 2] : List (Nat → Int)).Pairwise fun x y => cfA x y < 0 := by
  have h1 : cfA (auN 0) (auN 1) < 0 := by decide +kernel
  have h2 : cfA (auN 0) (auN 2) < 0 := by decide +kernel
  have h3 : cfA (auN 1) (auN 2) < 0 := by decide +kernel
  simp [h1, h2, h3]
/-- What start makes. -/
structure M0 (room days : Int) (M : Mo) : Prop where
  room : M.room = room
  days : M.days = days
  es : M.es = []
  gs : M.gs.map gpl = [(kG, [auN 0, auN 1, auN 2]), (kAB, [auN 1])]
theorem M0.moe {r d : Int} {M N : Mo} (h : M0 r d M) (k : M0 r d N) : MoE M N := ⟨by rw [k.room, h.room], by rw [k.days, h.days], by rw [k.es, h.es], by rw [k.gs, h.gs]⟩
theorem M0.nm {r d : Int} {M : Mo} (h : M0 r d M) : NmD M := by
  have e : M.gs.Pairwise fun x y => (gpl x).1 ≠ (gpl y).1 := by
    rw [← List.pairwise_map (f := gpl) (R := fun a b => a.1 ≠ b.1), h.gs]
    have : ¬ kG = kAB := by decide
    simp [this]
  exact e
theorem M0.st {r d : Int} {M : Mo} (h : M0 r d M) (hr : 0 ≤ r) : St r d M := ⟨h.room, h.days, by rw [ws_eq, h.es, h.room]; exact hr, fun y hy => by rw [h.es] at hy; cases hy⟩
theorem M0.md {r d : Int} {M : Mo} (h : M0 r d M) : (M.md kG).l = [auN 0, auN 1, auN 2] := by
  have e : M.gs.map gpl = [(⟨kG, ⟨[auN 0, auN 1, auN 2], none, 0⟩⟩ : Gx), ⟨kAB, ⟨[auN 1], none, 0⟩⟩].map gpl := by rw [h.gs]; rfl
  have := gfind (g := kG) e
  unfold Mo.md
  rw [this]
  rw [List.find?_cons, show decide (kG = kG) = true from rfl]
  rfl
theorem setR_msn {q q' : Qu} {g : ByteArray} {l : List (Nat → Int)} (h : setR q g l q') (hm : MsN q) : MsN q' := by
  rcases h with ⟨_, rfl⟩ | ⟨_, _, rfl⟩ | ⟨_, hne, x, hp, _, _, rfl⟩
  · exact hm
  · intro c y hy
    have hy : aget (adel q.ms g) c = some y := hy
    rw [aget_adel] at hy
    split at hy
    · cases hy
    · exact hm c y hy
  · intro c y hy
    have hy : aget (aset q.ms g x) c = some y := hy
    rw [aget_aset] at hy
    split at hy
    · cases hy
      intro e
      rw [e] at hp
      exact hne (List.nil_perm.1 hp)
    · exact hm c y hy
theorem row3 {W : World} {n : Nat} {a b c : Nat → Int} {f : Nat × Nat} (h : W.heap[n]? = some (.cells (arrI .u8 a 16 0 ++ (arrI .u8 b 16 0 ++ arrI .u8 c 16 0)).toArray 45 f)) : RowA auC 16 W (some ⟨n, 0, none⟩) [a, b, c] := fun k y hy => by
  match k, hy with
  | 0, hy => cases hy; exact ⟨n, 0, rfl, AtL_block h rfl⟩
  | 1, hy => cases hy; exact ⟨n, 0, rfl, AtL_block h rfl⟩
  | 2, hy => cases hy; exact ⟨n, 0, rfl, AtL_block h rfl⟩
  | k + 3, hy => cases hy
theorem row1 {W : World} {n : Nat} {a : Nat → Int} {f : Nat × Nat} (h : W.heap[n]? = some (.cells (arrI .u8 a 16 0).toArray 45 f)) : RowA auC 16 W (some ⟨n, 0, none⟩) [a] := fun k y hy => by
  match k, hy with
  | 0, hy => cases hy; exact ⟨n, 0, rfl, AtL_block h rfl⟩
  | k + 1, hy => cases hy
theorem gw_lt {w : World} (hG : GW w) : 0 < w.heap.size := by
  obtain ⟨m, hm⟩ := hG
  unfold World.cell? at hm
  rcases Nat.lt_or_ge 0 w.heap.size with h | h
  · exact h
  · simp only [Array.getElem?_eq_none h] at hm
    cases hm
set_option maxRecDepth 100000 in
set_option maxHeartbeats 4000000 in
theorem lstart_any (room days : Int) (hnew : newR room days = false) (w : World) (hG : GW w) :
    Calls Tryz.prog 17 #[.int .i64 room, .int .i64 days] w fun e w' => ∃ (b mb eb m : Nat) (q : Qu) (M : Mo) (P : Pl), e = .returned (.tuple #[.pointer (some ⟨b, 0, none⟩), .pointer (some ⟨m, 0, none⟩)]) ∧ SW w w' b mb eb m q M P ∧ Rq 2 q M ∧ M0 room days M ∧ MsN q := by
  refine vc_lstart room days w _ ⟨(mnew_any room days w (gw_lt hG)).mono fun e w1 hN => ?_⟩
  rcases hN with ⟨h, _⟩ | ⟨_, b, mb, eb, he, hq, k1, gb, gm, ge⟩
  · rw [hnew] at h; cases h
  refine ⟨_, _, he, .of_k0 k1, fun m W hW => ?_⟩
  have kW : K0 w1 W := hW.kk rfl
  have k01 := k1.trans kW
  have gm0 : w1.heap.size ≤ m := hW.fresh 0 rfl rfl
  have s1 := k1.size
  have hM : MoR W w.heap.size m ⟨room, days, [], []⟩ ⟨none, 0, none, 0⟩ := ⟨hW.cells 0 rfl, by omega, World.ownsRow_nil _ _ _ _, World.ownsRow_nil _ _ _ _, fun y hy => by cases hy⟩
  have h0 : SW w W b mb eb m ⟨room, days, 0, [], []⟩ ⟨room, days, [], []⟩ ⟨none, 0, none, 0⟩ := ⟨hq.k0 kW, (fun g x hx => by cases hx), hM, k01, gb, gm, ge⟩
  have r0 := Rq.new room days hnew
  have n0 : MsN ⟨room, days, 0, [], []⟩ := fun g x hx => by cases hx
  clear hW hM
  refine ⟨(lauthor_any 2 W).mono fun e w2 ⟨he, k2⟩ => ⟨_, he, .of_k0 k2, ⟨(lauthor_any 0 w2).mono fun e w3 ⟨he, k3⟩ => ⟨_, he, .of_k0 k3, ⟨(lauthor_any 1 w3).mono fun e w4 ⟨he, k4⟩ => ⟨_, he, .of_k0 k4, fun n1 W5 hW5 => ?_⟩⟩⟩⟩⟩⟩
  have h5 := h0.k0 (((k2.trans k3).trans k4).trans (hW5.kk rfl))
  have c5 := hW5.cells 0 rfl
  clear hW5
  refine ⟨(setModsQ_any h5.mq h5.qs kG [auN 2, auN 0, auN 1] (some ⟨n1, 0, none⟩) 3 (row3 c5) (fun g o e => by cases e; exact block_lt c5) (fun z hz => (au3 z hz).1) (h5.gw hG)).mono fun e w6 ⟨he, ⟨q6, hs6, hq6, hQ6⟩, k6⟩ => ⟨_, he, h5.qk k6 (fun z hz => ?_), ?_⟩⟩
  · rcases List.mem_singleton.1 hz with rfl
    exact ⟨_, _, _, h5.mr.st, rfl⟩
  have h6 := h5.qopS hq6 hQ6 k6
  refine ⟨(lauthor_any 2 w6).mono fun e w7 ⟨he, k7⟩ => ⟨_, he, .of_k0 k7, ⟨(lauthor_any 0 w7).mono fun e w8 ⟨he, k8⟩ => ⟨_, he, .of_k0 k8, ⟨(lauthor_any 1 w8).mono fun e w9 ⟨he, k9⟩ => ⟨_, he, .of_k0 k9, fun n2 W10 hW10 => ?_⟩⟩⟩⟩⟩⟩
  have h10 := h6.k0 (((k7.trans k8).trans k9).trans (hW10.kk rfl))
  have c10 := hW10.cells 0 rfl
  clear hW10
  refine ⟨(xset_any h10.mr (by show (0 : Nat) ≤ _; omega) kG [auN 2, auN 0, auN 1] (some ⟨n2, 0, none⟩) 3 (row3 c10) (fun z hz => (au3 z hz).1)).mono fun e w11 ⟨he, hx, k11⟩ => ⟨_, he, .of_kp k11 (fun z hz => by cases hz), ?_⟩⟩
  rcases hx with ⟨hne, _⟩ | ⟨_, X, P11, hp11, hs11, hM11⟩
  · exact absurd set3 hne
  have h11 := h10.mop hM11 k11
  have r11 := r0.setr au3 hs6 set3 hp11 hs11
  have n11 := setR_msn hs6 n0
  refine ⟨(lauthor_any 1 w11).mono fun e w12 ⟨he, k12⟩ => ⟨_, he, .of_k0 k12, fun n3 W13 hW13 => ?_⟩⟩
  have h13 := h11.k0 (k12.trans (hW13.kk rfl))
  have c13 := hW13.cells 0 rfl
  clear hW13
  refine ⟨(setModsQ_any h13.mq h13.qs kAB [auN 1] (some ⟨n3, 0, none⟩) 1 (row1 c13) (fun g o e => by cases e; exact block_lt c13) (fun z hz => (au1 z hz).1) (h13.gw hG)).mono fun e w14 ⟨he, ⟨q14, hs14, hq14, hQ14⟩, k14⟩ => ⟨_, he, .of_kp k14 (fun z hz => by cases hz), ?_⟩⟩
  have h14 := h13.qopS hq14 hQ14 k14
  refine ⟨(lauthor_any 1 w14).mono fun e w15 ⟨he, k15⟩ => ⟨_, he, .of_k0 k15, fun n4 W16 hW16 => ?_⟩⟩
  have h16 := h14.k0 (k15.trans (hW16.kk rfl))
  have c16 := hW16.cells 0 rfl
  clear hW16
  refine ⟨(xset_any h16.mr (by have := r11.gl; show (gset [] kG X).length ≤ 1000000; have : (gset [] kG X).length ≤ 0 + 1 := this; omega) kAB [auN 1] (some ⟨n4, 0, none⟩) 1 (row1 c16) (fun z hz => (au1 z hz).1)).mono fun e w17 ⟨he, hx, k17⟩ => ⟨_, he, .of_kp k17 (fun z hz => by cases hz), ?_⟩⟩
  rcases hx with ⟨hne, _⟩ | ⟨_, Z, P17, hp17, hs17, hM17⟩
  · exact absurd set1 hne
  have h17 := h16.mop hM17 k17
  have r17 := r11.setr au1 hs14 set1 hp17 hs17
  have hX : X.l = [auN 0, auN 1, auN 2] := sort_uniq (cf := cfA) cfA_ord.anti (hp11.trans (List.Perm.swap _ _ _ |>.trans (List.Perm.cons _ (List.Perm.swap _ _ _)))) hs11 srt3
  have hZ : Z.l = [auN 1] := List.perm_singleton.1 hp17
  refine ⟨b, mb, eb, m, q14, _, P17, rfl, h17, r17, ⟨rfl, rfl, rfl, ?_⟩, setR_msn hs14 n11⟩
  show (gset (gset [] kG X) kAB Z).map gpl = _
  have hne : ¬ kG = kAB := by decide
  simp only [gset, hne, if_false, List.map_cons, List.map_nil, gpl, hX, hZ]

end Go.Proofs.YtfacflbmlfbeeaaGreatDoor

/- The formulas of functions by the symbolic evaluator, and that each gives the call's contract. Written by a program (gen.py). No condition. -/
namespace Go.Proofs.YtfacflbmlfbeeaaGreatDoor
set_option maxRecDepth 100000
set_option linter.unusedVariables false

def VC_ceq (k : Int) (f : Nat -> Int) (g : ByteArray) (w : World) (R : Ending -> World -> Prop) : Prop := ∀ (n n_1 : Nat), ∃ (f_1 : Nat -> Int), gimp (k == k) (∀ (W : World), Loc w.heap.size [Blk.mk n_1 42 ([Value.int .i64 k] ++ arrI .u8 f 32 0 ++ [Value.string g, .int .i64 0, .bool false, .slice none 0 0, .string (ByteArray.mk #[]), .int .i64 0, .int .i64 0, .int .u8 0, .int .u8 0, .int .u8 0, .int .u8 0, .int .u8 0, .int .u8 0, .int .u8 0, .int .u8 0, .int .u8 0, .int .u8 0, .int .u8 0, .int .u8 0, .int .u8 0, .int .u8 0, .int .u8 0, .int .u8 0]) 2, Blk.mk n 42 ([Value.int .i64 k] ++ arrI .u8 f 32 0 ++ [Value.string g, .int .i64 0, .bool false, .slice none 0 0, .string (ByteArray.mk #[]), .int .i64 0, .int .i64 0, .int .u8 0, .int .u8 0, .int .u8 0, .int .u8 0, .int .u8 0, .int .u8 0, .int .u8 0, .int .u8 0, .int .u8 0, .int .u8 0, .int .u8 0,
 .int .u8 0, .int .u8 0, .int .u8 0, .int .u8 0, .int .u8 0]) 2] w W -> AtL W n (0 + 1) (arrI .u8 f_1 32 0)) /\ ∃ (f_2 : Nat -> Int), gimp (k == k) (∀ (W : World), Loc w.heap.size [Blk.mk n_1 42 ([Value.int .i64 k] ++ arrI .u8 f 32 0 ++ [Value.string g, .int .i64 0, .bool false, .slice none 0 0, .string (ByteArray.mk #[]), .int .i64 0, .int .i64 0, .int .u8 0, .int .u8 0, .int .u8 0, .int .u8 0, .int .u8 0, .int .u8 0, .int .u8 0, .int .u8 0, .int .u8 0, .int .u8 0, .int .u8 0, .int .u8 0, .int .u8 0, .int .u8 0, .int .u8 0, .int .u8 0]) 2, Blk.mk n 42 ([Value.int .i64 k] ++ arrI .u8 f 32 0 ++ [Value.string g, .int .i64 0, .bool false, .slice none 0 0, .string (ByteArray.mk #[]), .int .i64 0, .int .i64 0, .int .u8 0, .int .u8 0, .int .u8 0, .int .u8 0, .int .u8 0, .int .u8 0, .int .u8 0, .int .u8 0, .int .u8 0, .int .u8 0, .int .u8 0, .int .u8 0, .int .u8 0, .int .u8 0,
 .int .u8 0, .int .u8 0]) 2] w W -> AtL W n_1 (0 + 1) (arrI .u8 f_2 32 0)) /\ ∃ (r : Bool), gimp (k == k) (EqP Tryz.prog 32 (.agg (arrI .u8 f_1 32 0).toArray) (.agg (arrI .u8 f_2 32 0).toArray) r) /\ ∃ (x : ByteArray), gimp (k == k && r) (∀ (W : World), Loc w.heap.size [Blk.mk n_1 42 ([Value.int .i64 k] ++ arrI .u8 f 32 0 ++ [Value.string g, .int .i64 0, .bool false, .slice none 0 0, .string (ByteArray.mk #[]), .int .i64 0, .int .i64 0, .int .u8 0, .int .u8 0, .int .u8 0, .int .u8 0, .int .u8 0, .int .u8 0, .int .u8 0, .int .u8 0, .int .u8 0, .int .u8 0, .int .u8 0, .int .u8 0, .int .u8 0, .int .u8 0, .int .u8 0, .int .u8 0]) 2, Blk.mk n 42 ([Value.int .i64 k] ++ arrI .u8 f 32 0 ++ [Value.string g, .int .i64 0, .bool false, .slice none 0 0, .string (ByteArray.mk #[]), .int .i64 0, .int .i64 0, .int .u8 0, .int .u8 0, .int .u8 0, .int .u8 0, .int .u8 0, .int .u8 0,
 .int .u8 0, .int .u8 0, .int .u8 0, .int .u8 0, .int .u8 0, .int .u8 0, .int .u8 0, .int .u8 0, .int .u8 0, .int .u8 0]) 2] w W -> W.cell? (Addr.mk n (0 + 33) none) = some (.string x)) /\ ∃ (x_1 : ByteArray), gimp (k == k && r) (∀ (W : World), Loc w.heap.size [Blk.mk n_1 42 ([Value.int .i64 k] ++ arrI .u8 f 32 0 ++ [Value.string g, .int .i64 0, .bool false, .slice none 0 0, .string (ByteArray.mk #[]), .int .i64 0, .int .i64 0, .int .u8 0, .int .u8 0, .int .u8 0, .int .u8 0, .int .u8 0, .int .u8 0, .int .u8 0, .int .u8 0, .int .u8 0, .int .u8 0, .int .u8 0, .int .u8 0, .int .u8 0, .int .u8 0, .int .u8 0, .int .u8 0]) 2, Blk.mk n 42 ([Value.int .i64 k] ++ arrI .u8 f 32 0 ++ [Value.string g, .int .i64 0, .bool false, .slice none 0 0, .string (ByteArray.mk #[]), .int .i64 0, .int .i64 0, .int .u8 0, .int .u8 0, .int .u8 0, .int .u8 0, .int .u8 0, .int .u8 0,
 .int .u8 0, .int .u8 0, .int .u8 0, .int .u8 0, .int .u8 0, .int .u8 0, .int .u8 0, .int .u8 0, .int .u8 0, .int .u8 0]) 2] w W -> W.cell? (Addr.mk n_1 (0 + 33) none) = some (.string x_1)) /\ ∃ (x_2 : Int), gimp (k == k && r && x.toList == x_1.toList) (∀ (W : World), Loc w.heap.size [Blk.mk n_1 42 ([Value.int .i64 k] ++ arrI .u8 f 32 0 ++ [Value.string g, .int .i64 0, .bool false, .slice none 0 0, .string (ByteArray.mk #[]), .int .i64 0, .int .i64 0, .int .u8 0, .int .u8 0, .int .u8 0, .int .u8 0, .int .u8 0, .int .u8 0, .int .u8 0, .int .u8 0, .int .u8 0, .int .u8 0, .int .u8 0, .int .u8 0, .int .u8 0, .int .u8 0, .int .u8 0, .int .u8 0]) 2, Blk.mk n 42 ([Value.int .i64 k] ++ arrI .u8 f 32 0 ++ [Value.string g, .int .i64 0, .bool false, .slice none 0 0, .string (ByteArray.mk #[]), .int .i64 0, .int .i64 0, .int .u8 0, .int .u8 0, .int .u8 0, .int .u8 0,
 .int .u8 0, .int .u8 0, .int .u8 0, .int .u8 0, .int .u8 0, .int .u8 0, .int .u8 0, .int .u8 0, .int .u8 0, .int .u8 0, .int .u8 0, .int .u8 0]) 2] w W -> W.cell? (Addr.mk n (0 + 34) none) = some (.int .i64 x_2)) /\ ∃ (x_3 : Int), gimp (k == k && r && x.toList == x_1.toList) (∀ (W : World), Loc w.heap.size [Blk.mk n_1 42 ([Value.int .i64 k] ++ arrI .u8 f 32 0 ++ [Value.string g, .int .i64 0, .bool false, .slice none 0 0, .string (ByteArray.mk #[]), .int .i64 0, .int .i64 0, .int .u8 0, .int .u8 0, .int .u8 0, .int .u8 0, .int .u8 0, .int .u8 0, .int .u8 0, .int .u8 0, .int .u8 0, .int .u8 0, .int .u8 0, .int .u8 0, .int .u8 0, .int .u8 0, .int .u8 0, .int .u8 0]) 2, Blk.mk n 42 ([Value.int .i64 k] ++ arrI .u8 f 32 0 ++ [Value.string g, .int .i64 0, .bool false, .slice none 0 0, .string (ByteArray.mk #[]), .int .i64 0, .int .i64 0, .int .u8 0, .int .u8 0, .int .u8 0, .int .u8 0,
 .int .u8 0, .int .u8 0, .int .u8 0, .int .u8 0, .int .u8 0, .int .u8 0, .int .u8 0, .int .u8 0, .int .u8 0, .int .u8 0, .int .u8 0, .int .u8 0]) 2] w W -> W.cell? (Addr.mk n_1 (0 + 34) none) = some (.int .i64 x_3)) /\ ∃ (x_4 : Bool), gimp (k == k && r && x.toList == x_1.toList && x_2 == x_3) (∀ (W : World), Loc w.heap.size [Blk.mk n_1 42 ([Value.int .i64 k] ++ arrI .u8 f 32 0 ++ [Value.string g, .int .i64 0, .bool false, .slice none 0 0, .string (ByteArray.mk #[]), .int .i64 0, .int .i64 0, .int .u8 0, .int .u8 0, .int .u8 0, .int .u8 0, .int .u8 0, .int .u8 0, .int .u8 0, .int .u8 0, .int .u8 0, .int .u8 0, .int .u8 0, .int .u8 0, .int .u8 0, .int .u8 0, .int .u8 0, .int .u8 0]) 2, Blk.mk n 42 ([Value.int .i64 k] ++ arrI .u8 f 32 0 ++ [Value.string g, .int .i64 0, .bool false, .slice none 0 0, .string (ByteArray.mk #[]), .int .i64 0, .int .i64 0,
 .int .u8 0, .int .u8 0, .int .u8 0, .int .u8 0, .int .u8 0, .int .u8 0, .int .u8 0, .int .u8 0, .int .u8 0, .int .u8 0, .int .u8 0, .int .u8 0, .int .u8 0, .int .u8 0, .int .u8 0, .int .u8 0]) 2] w W -> W.cell? (Addr.mk n (0 + 35) none) = some (.bool x_4)) /\ ∃ (x_5 : Bool), gimp (k == k && r && x.toList == x_1.toList && x_2 == x_3) (∀ (W : World), Loc w.heap.size [Blk.mk n_1 42 ([Value.int .i64 k] ++ arrI .u8 f 32 0 ++ [Value.string g, .int .i64 0, .bool false, .slice none 0 0, .string (ByteArray.mk #[]), .int .i64 0, .int .i64 0, .int .u8 0, .int .u8 0, .int .u8 0, .int .u8 0, .int .u8 0, .int .u8 0, .int .u8 0, .int .u8 0, .int .u8 0, .int .u8 0, .int .u8 0, .int .u8 0, .int .u8 0, .int .u8 0, .int .u8 0, .int .u8 0]) 2, Blk.mk n 42 ([Value.int .i64 k] ++ arrI .u8 f 32 0 ++ [Value.string g, .int .i64 0, .bool false, .slice none 0 0,
 .string (ByteArray.mk #[]), .int .i64 0, .int .i64 0, .int .u8 0, .int .u8 0, .int .u8 0, .int .u8 0, .int .u8 0, .int .u8 0, .int .u8 0, .int .u8 0, .int .u8 0, .int .u8 0, .int .u8 0, .int .u8 0, .int .u8 0, .int .u8 0, .int .u8 0, .int .u8 0]) 2] w W -> W.cell? (Addr.mk n_1 (0 + 35) none) = some (.bool x_5)) /\ ∃ (p : Option Addr) (n_2 : Nat) (c : Nat), gimp (k == k && r && x.toList == x_1.toList && x_2 == x_3 && x_4 == x_5) (∀ (W : World), Loc w.heap.size [Blk.mk n_1 42 ([Value.int .i64 k] ++ arrI .u8 f 32 0 ++ [Value.string g, .int .i64 0, .bool false, .slice none 0 0, .string (ByteArray.mk #[]), .int .i64 0, .int .i64 0, .int .u8 0, .int .u8 0, .int .u8 0, .int .u8 0, .int .u8 0, .int .u8 0, .int .u8 0, .int .u8 0, .int .u8 0, .int .u8 0, .int .u8 0, .int .u8 0, .int .u8 0, .int .u8 0, .int .u8 0, .int .u8 0]) 2, Blk.mk n 42
 ([Value.int .i64 k] ++ arrI .u8 f 32 0 ++ [Value.string g, .int .i64 0, .bool false, .slice none 0 0, .string (ByteArray.mk #[]), .int .i64 0, .int .i64 0, .int .u8 0, .int .u8 0, .int .u8 0, .int .u8 0, .int .u8 0, .int .u8 0, .int .u8 0, .int .u8 0, .int .u8 0, .int .u8 0, .int .u8 0, .int .u8 0, .int .u8 0, .int .u8 0, .int .u8 0, .int .u8 0]) 2] w W -> W.cell? (Addr.mk n (0 + 36) none) = some (.slice p n_2 c)) /\ ∃ (p_1 : Option Addr) (n_3 : Nat) (c_1 : Nat), gimp (k == k && r && x.toList == x_1.toList && x_2 == x_3 && x_4 == x_5) (∀ (W : World), Loc w.heap.size [Blk.mk n_1 42 ([Value.int .i64 k] ++ arrI .u8 f 32 0 ++ [Value.string g, .int .i64 0, .bool false, .slice none 0 0, .string (ByteArray.mk #[]), .int .i64 0, .int .i64 0, .int .u8 0, .int .u8 0, .int .u8 0, .int .u8 0, .int .u8 0, .int .u8 0, .int .u8 0, .int .u8 0, .int .u8 0, .int .u8 0, .int .u8 0, .int .u8 0,
 .int .u8 0, .int .u8 0, .int .u8 0, .int .u8 0]) 2, Blk.mk n 42 ([Value.int .i64 k] ++ arrI .u8 f 32 0 ++ [Value.string g, .int .i64 0, .bool false, .slice none 0 0, .string (ByteArray.mk #[]), .int .i64 0, .int .i64 0, .int .u8 0, .int .u8 0, .int .u8 0, .int .u8 0, .int .u8 0, .int .u8 0, .int .u8 0, .int .u8 0, .int .u8 0, .int .u8 0, .int .u8 0, .int .u8 0, .int .u8 0, .int .u8 0, .int .u8 0, .int .u8 0]) 2] w W -> W.cell? (Addr.mk n_1 (0 + 36) none) = some (.slice p_1 n_3 c_1)) /\ ∀ (W : World), Loc w.heap.size [Blk.mk n_1 42 ([Value.int .i64 k] ++ arrI .u8 f 32 0 ++ [Value.string g, .int .i64 0, .bool false, .slice none 0 0, .string (ByteArray.mk #[]), .int .i64 0, .int .i64 0, .int .u8 0, .int .u8 0, .int .u8 0, .int .u8 0, .int .u8 0, .int .u8 0, .int .u8 0, .int .u8 0, .int .u8 0, .int .u8 0, .int .u8 0, .int .u8 0, .int .u8 0, .int .u8 0, .int .u8 0, .int .u8 0]) 2,
 Blk.mk n 42 ([Value.int .i64 k] ++ arrI .u8 f 32 0 ++ [Value.string g, .int .i64 0, .bool false, .slice none 0 0, .string (ByteArray.mk #[]), .int .i64 0, .int .i64 0, .int .u8 0, .int .u8 0, .int .u8 0, .int .u8 0, .int .u8 0, .int .u8 0, .int .u8 0, .int .u8 0, .int .u8 0, .int .u8 0, .int .u8 0, .int .u8 0, .int .u8 0, .int .u8 0, .int .u8 0, .int .u8 0]) 2] w W -> bsp (k == k && r && x.toList == x_1.toList && x_2 == x_3 && x_4 == x_5) (CallsS Tryz.prog 51 #[.slice p n_2 c, .slice p_1 n_3 c_1] W fun (e : Ending) (w' : World) => ∃ (x : Bool), e = .returned (.bool x) /\ KeptL [n_1, n] W w' /\ ∃ (x_6 : ByteArray), gimp (true && x) (w'.cell? (Addr.mk n (0 + 37) none) = some (.string x_6)) /\ ∃ (x_7 : ByteArray), gimp (true && x) (w'.cell? (Addr.mk n_1 (0 + 37) none) = some (.string x_7)) /\ ∃ (x_8 : Int), gimp (true && x && x_6.toList == x_7.toList)
 (w'.cell? (Addr.mk n (0 + 38) none) = some (.int .i64 x_8)) /\ ∃ (x_9 : Int), gimp (true && x && x_6.toList == x_7.toList) (w'.cell? (Addr.mk n_1 (0 + 38) none) = some (.int .i64 x_9)) /\ ∃ (x_10 : Int) (f : Nat -> Int), gimp (true && x && x_6.toList == x_7.toList && x_8 == x_9) (AtL w' n (0 + 39) ([Value.int .i64 x_10] ++ arrI .u8 f 16 0)) /\ ∃ (x_11 : Int) (f_3 : Nat -> Int), gimp (true && x && x_6.toList == x_7.toList && x_8 == x_9) (AtL w' n_1 (0 + 39) ([Value.int .i64 x_11] ++ arrI .u8 f_3 16 0)) /\ ∃ (r : Bool), gimp (true && x && x_6.toList == x_7.toList && x_8 == x_9) (EqP Tryz.prog 40 (.agg ([Value.int .i64 x_10] ++ arrI .u8 f 16 0).toArray) (.agg ([Value.int .i64 x_11] ++ arrI .u8 f_3 16 0).toArray) r) /\ R (.returned (.bool (true && x && x_6.toList == x_7.toList && x_8 == x_9 && r))) w') (KeptL [n_1, n] W W /\ ∃ (x : ByteArray), True /\ ∃ (x_6 : ByteArray), True /\
 ∃ (x_7 : Int), True /\ ∃ (x_8 : Int), True /\ ∃ (x_9 : Int) (f : Nat -> Int), True /\ ∃ (x_10 : Int) (f : Nat -> Int), True /\ ∃ (r : Bool), True /\ R (.returned (.bool (false && x.toList == x_6.toList && x_7 == x_8 && r))) W)
theorem vc_ceq (k : Int) (f : Nat -> Int) (g : ByteArray) (w : World) (R : Ending -> World -> Prop) (h : VC_ceq k f g w R) : Calls Tryz.prog 22 ([Value.agg ([Value.int .i64 k] ++ (arrI .u8 f 32 0 ++ ([Value.string g, .int .i64 0, .bool false, .slice none 0 0, .string { data := #[] }, .int .i64 0, .int .i64 0] ++ arrI .u8 (fun x => 0) 16 0))).toArray, .agg ([Value.int .i64 k] ++ (arrI .u8 f 32 0 ++ ([Value.string g, .int .i64 0, .bool false, .slice none 0 0, .string { data := #[] }, .int .i64 0, .int .i64 0] ++ arrI .u8 (fun x => 0) 16 0))).toArray] : List Value).toArray w R :=
 calls_of_exec2' (loops := []) (tails := []) (joins := []) (boxes := []) (rngs := []) (c := Tryz.f22.body.getD .skip) pur1_ok Tryz.func22 (by kernel_rfl) (by kernel_rfl) h

end Go.Proofs.YtfacflbmlfbeeaaGreatDoor

/- The formulas of functions by the symbolic evaluator, and that each gives the call's contract. Written by a program (gen.py). No condition. -/
namespace Go.Proofs.YtfacflbmlfbeeaaGreatDoor
set_option maxRecDepth 100000
set_option linter.unusedVariables false

end Go.Proofs.YtfacflbmlfbeeaaGreatDoor

/- Chapter 39: the contract of ModerationCommands. Bytes are bytes; texts are not too long; the library's variable MaxLen holds a number. -/
namespace Go.Proofs.YtfacflbmlfbeeaaGreatDoor
open Go.RowKit Go.Sort Go.Maps

/-! ### Commands are compared -/
set_option maxRecDepth 100000 in
theorem pubEq : EqP Tryz.prog 40 (.agg (([.int .i64 0] : List Value) ++ arrI .u8 (fun _ => 0) 16 0).toArray) (.agg (([.int .i64 0] : List Value) ++ arrI .u8 (fun _ => 0) 16 0).toArray) true := ⟨fun w => by kernel_rfl, by kernel_rfl, _, _, rfl, rfl⟩
set_option maxRecDepth 100000 in
set_option maxHeartbeats 4000000 in
theorem ceq_any (k : Int) (f : Nat → Int) (hf : BY f) (g : ByteArray) (w : World) : Calls Tryz.prog 22 #[.agg (apC k f g).toArray, .agg (apC k f g).toArray] w fun e w' => e = .returned (.bool true) ∧ K0 w w' := by
  refine vc_ceq k f g w _ (fun n n1 => ?_)
  refine ⟨f, gimp_intro fun _ W hW => AtL_block (hW.cells 1 rfl) rfl, f, gimp_intro fun _ W hW => AtL_block (hW.cells 0 rfl) rfl, _, gimp_intro fun _ => idEqF hf hf, g, gimp_intro fun _ W hW => cell_at (hW.cells 1 rfl) rfl, g, gimp_intro fun _ W hW => cell_at (hW.cells 0 rfl) rfl, 0, gimp_intro fun _ W hW => cell_at (hW.cells 1 rfl) rfl, 0, gimp_intro fun _ W hW => cell_at (hW.cells 0 rfl) rfl, false, gimp_intro fun _ W hW => cell_at (hW.cells 1 rfl) rfl, false, gimp_intro fun _ W hW => cell_at (hW.cells 0 rfl) rfl, none, 0, 0, gimp_intro fun _ W hW => cell_at (hW.cells 1 rfl) rfl, none, 0, 0, gimp_intro fun _ W hW => cell_at (hW.cells 0 rfl) rfl, fun W hW => bsp_intro (fun _ => ?_) (fun h => by simp at h)⟩
  have kW : K0 w W := hW.kk rfl
  have c0 := hW.cells 0 rfl
  have c1 := hW.cells 1 rfl
  clear hW
  refine ⟨(aequal_any [] [] none 0 none 0 W RowA.nil RowA.nil (fun m h => by cases h) (fun m h => by cases h) (by decide)).mono fun e w1 ⟨he, k1⟩ => ⟨_, he, .of_k0 k1, ?_⟩⟩
  have d0 := k1.blk c0 (fun h => h)
  have d1 := k1.blk c1 (fun h => h)
  refine ⟨⟨#[]⟩, gimp_intro fun _ => cell_at d1 rfl, ⟨#[]⟩, gimp_intro fun _ => cell_at d0 rfl, 0, gimp_intro fun _ => cell_at d1 rfl, 0, gimp_intro fun _ => cell_at d0 rfl, 0, fun _ => 0, gimp_intro fun _ => AtL_block d1 rfl, 0, fun _ => 0, gimp_intro fun _ => AtL_block d0 rfl, true, gimp_intro fun _ => pubEq, ?_, kW.trans k1⟩
  simp

/-! ### What stands in the queue -/
structure Q1 (q : Qu) (k : Ky) (e : En) : Prop where
  ok : q.OK
  ln : q.es.length ≤ 10000
  en : aget q.es k = some e
  md : ∀ c, c = 1 ∨ c = 2 → isMB (q.md kG) (auN c) = true
end Go.Proofs.YtfacflbmlfbeeaaGreatDoor

/- Chapter 39: the contract of ModerationCommands. Bytes are bytes; texts are not too long; the library's variable MaxLen holds a number. -/
namespace Go.Proofs.YtfacflbmlfbeeaaGreatDoor
open Go.RowKit Go.Sort Go.Maps

section
variable {w0 w w' : World} {b mb eb m : Nat} {q : Qu} {M : Mo} {P : Pl}
theorem SW.off (h : SW w0 w b mb eb m q M P) {N : Nat → Prop} {t : TypeId} (hk : Kp N w w') (hN : ∀ k, N k → w0.heap.size ≤ k ∧ ∃ c f, w.heap[k]? = some (.cells c t f)) (ht : (t == 57 || t == 93 || t == 91 || t == 45) = false) (hq : (t == 98) = false) : SW w0 w' b mb eb m q M P := by
  have no : ∀ {k : Nat} {c : Array Value} {t' : TypeId} {f : Nat × Nat}, w.heap[k]? = some (.cells c t' f) → (t == t') = false → ¬ N k := fun hc hne hn => by
    obtain ⟨_, c', f', hc'⟩ := hN _ hn
    rw [hc] at hc'
    cases hc'
    simp at hne
  have nm : ∀ {k : Nat} {es : Array MapEntry} {c : Nat}, w.heap[k]? = some (.map es c) → ¬ N k := fun hc hn => by
    obtain ⟨_, c', f', hc'⟩ := hN _ hn
    rw [hc] at hc'
    cases hc'
  have ta : (t == 45) = false := by
    simp only [Bool.or_eq_false_iff] at ht
    exact ht.2
  have n1 : ¬ N mb := by obtain ⟨es, c', hb, _⟩ := h.mq.mm.blk; exact nm hb
  have n2 : ¬ N eb := by obtain ⟨es, c', hb, _⟩ := h.mq.me.blk; exact nm hb
  refine ⟨⟨hk.blk h.mq.st (no h.mq.st hq), h.mq.mm.kp hk n1, h.mq.me.kp hk n2, fun g x hx => (h.mq.row g x hx).ty (h.qs g x hx) hk (fun k c f hc => no hc ta), h.mq.ne, h.mq.nz⟩, fun g x hx => (h.qs g x hx).kp hk (fun k c f hc => no hc ta), h.mr.off hk (fun k hn => (hN k hn).2) ht, h.k.fresh hk (fun i hi hn => ?_), h.gb, h.gm, h.ge⟩
  have := (hN i hn).1
  omega
end
/-- Blocks of cells that are no queue are kept. -/
def KQ (w w' : World) : Prop := w.heap.size ≤ w'.heap.size ∧ ∀ (k : Nat) (c : Array Value) (t : TypeId) (f : Nat × Nat), w.heap[k]? = some (.cells c t f) → (t == 98) = false → w'.heap[k]? = some (.cells c t f)
theorem Mq.kq {w w' : World} {b mb eb : Nat} {q : Qu} (h : Mq w b mb eb q) (hk : Kp (QB b mb eb) w w') : KQ w w' := ⟨hk.size, fun _ _ _ _ hc ht => hk.blk hc (h.not_ty hc ht)⟩
end Go.Proofs.YtfacflbmlfbeeaaGreatDoor

/- Chapter 39: what an operation keeps; small facts for the law's do. Generic or as said. -/
namespace Go.Proofs.YtfacflbmlfbeeaaGreatDoor
open Go.RowKit Go.Sort Go.Maps

/-- Blocks of cells that belong to no queue and to no model are kept. -/
def nQM (t : TypeId) : Bool := t == 98 || t == 57 || t == 93 || t == 91
def KD (w w' : World) : Prop := w.heap.size ≤ w'.heap.size ∧ ∀ (k : Nat) (c : Array Value) (t : TypeId) (f : Nat × Nat), w.heap[k]? = some (.cells c t f) → nQM t = false → w'.heap[k]? = some (.cells c t f)
section
variable {w w1 w2 w' : World} {b mb eb B : Nat} {q : Qu}
theorem KD.refl (w : World) : KD w w := ⟨Nat.le_refl _, fun _ _ _ _ h _ => h⟩
theorem KD.trans (h : KD w w1) (k : KD w1 w2) : KD w w2 := ⟨Nat.le_trans h.1 k.1, fun i c t f hc ht => k.2 i c t f (h.2 i c t f hc ht) ht⟩
theorem KD.k0 (h : K0 w w') : KD w w' := ⟨h.size, fun _ _ _ _ hc _ => h.blk hc (fun h => h)⟩
theorem Mq.kd (h : Mq w b mb eb q) (hk : Kp (QB b mb eb) w w') : KD w w' := ⟨hk.size, fun _ _ _ _ hc ht => hk.blk hc (h.not_ty hc (by
  unfold nQM at ht
  simp only [Bool.or_eq_false_iff] at ht
  exact ht.1.1.1))⟩
theorem KD.mf (hk : Kp (MF w B) w w') : KD w w' := ⟨hk.size, fun _ _ _ _ hc ht => hk.blk hc (mf_no hc (by
  unfold nQM at ht
  simp only [Bool.or_eq_false_iff] at ht ⊢
  exact ⟨⟨ht.1.1.2, ht.1.2⟩, ht.2⟩))⟩
theorem KD.kept (h : KD w w') {ns : List Nat} (hn : ∀ z ∈ ns, ∃ c t f, w.heap[z]? = some (.cells c t f) ∧ nQM t = false) : KeptL ns w w' := ⟨h.1, fun z hz _ => by
  obtain ⟨c, t, f, hc, ht⟩ := hn z hz
  rw [hc, h.2 z c t f hc ht]⟩
theorem KD.own (h : KD w w') {base L n c : Nat} {p : Option Addr} {e : TypeId} {xs : List Value} (ho : w.ownsRow base e L (.slice p n c) n xs) (he : nQM e = false) : w'.ownsRow base e L (.slice p n c) n xs := by
  refine ⟨ho.1, ?_⟩
  rcases ho.2 with h1 | ⟨g, cap, cur, hv, hb, hg, h4⟩
  · exact .inl h1
  · exact .inr ⟨g, cap, cur, hv, hb, h.2 g _ _ _ hg he, h4⟩
end
/-- The blocks of an operation, its identity and its author stand. -/
def DS39 (n n1 n2 : Nat) (C : List Value) (i a : Int) (w : World) : Prop := w.heap[n]? = some (.cells C.toArray 66 (0, 0)) ∧ w.heap[n1]? = some (.cells (arrI .u8 (idN i) 32 0).toArray 32 (0, 0)) ∧ w.heap[n2]? = some (.cells (arrI .u8 (auN a) 16 0).toArray 45 (0, 0))
theorem DS39.kd {n n1 n2 : Nat} {C : List Value} {i a : Int} {w w' : World} (h : DS39 n n1 n2 C i a w) (k : KD w w') : DS39 n n1 n2 C i a w' := ⟨k.2 _ _ _ _ h.1 rfl, k.2 _ _ _ _ h.2.1 rfl, k.2 _ _ _ _ h.2.2 rfl⟩
theorem putN {w w1 : World} {n N : Nat} {c : Array Value} {t : TypeId} {l : List Value} (h : w.heap[n]? = some (.cells c t (0, 0))) (hc : c.size = N) (hl : l.length = N) (hp : PutB w n 0 l w1) : w1.heap[n]? = some (.cells l.toArray t (0, 0)) := by
  have h1 := hp.block h
  rw [h1]
  have e : putL c.toList 0 l = l := by
    apply List.ext_getElem?
    intro t
    rcases Nat.lt_or_ge t N with ht | ht
    · rw [putL_get _ _ _ _ (by simp [hc, hl]), if_pos (by omega), Nat.sub_zero]
    · rw [List.getElem?_eq_none (by rw [putL_len]; simp [hc]; omega), List.getElem?_eq_none (by omega)]
  rw [e]
theorem dofin {W1 cur : World} {n n1 n2 : Nat} {zX zY : Array Value} {f f' : Nat → Int} {J : World → Prop} (k : K0 W1 cur) (g1 : W1.heap.size ≤ n1) (g2 : W1.heap.size ≤ n2)
    (cX : cur.heap[n1]? = some (.cells zX 32 (0, 0))) (hX : zX.size = 32) (cY : cur.heap[n2]? = some (.cells zY 45 (0, 0))) (hY : zY.size = 16)
    (hJ : ∀ w2, K0 W1 w2 → w2.heap[n1]? = some (.cells (arrI .u8 f 32 0).toArray 32 (0, 0)) → w2.heap[n2]? = some (.cells (arrI .u8 f' 16 0).toArray 45 (0, 0)) → J w2) :
    WrL cur n1 0 32 ∧ ∀ w1, PutB cur n1 0 (arrI .u8 f 32 0) w1 → WrL w1 n2 0 16 ∧ ∀ w2, PutB w1 n2 0 (arrI .u8 f' 16 0) w2 → KeptL [n] W1 w2 ∧ J w2 := by
  have hne : n2 ≠ n1 := fun e => by
    rw [e, cX] at cY
    have := (Obj.cells.inj (Option.some.inj cY)).2.1
    exact absurd this (by decide)
  refine ⟨WrL_block cX (by omega), fun w1 p1 => ?_⟩
  have dX := putN cX hX rfl p1
  have dY := p1.kp.blk cY (fun e => hne e)
  refine ⟨WrL_block dY (by omega), fun w2 p2 => ?_⟩
  have k1 : K0 W1 w1 := k.fresh p1.kp (fun j hj e => by have e : j = n1 := e; omega)
  have k2 : K0 W1 w2 := k1.fresh p2.kp (fun j hj e => by have e : j = n2 := e; omega)
  exact ⟨.of_k0 k2, hJ w2 k2 (p2.kp.blk dX (fun e => hne e.symm)) (putN dY hY rfl p2)⟩
theorem sbz_ok : sbz.OK := ⟨by0, fun _ _ => rfl, by0, fun _ _ => rfl, by decide, by decide, by decide, ⟨by decide, by decide⟩, ⟨by decide, by decide⟩, ⟨by decide, by decide⟩⟩
theorem xclS_ok {M : Mo} (h : M.OK) (g : ByteArray) (a : Nat → Int) (now : Int) : (xclS M g a now).OK := by
  unfold xclS
  split
  · cases hf : M.es.find? (clP g (auI a) now) with
    | none => exact sbz_ok
    | some y => exact (h.es y (List.mem_of_find?_eq_some hf)).1.s
  · exact sbz_ok
theorem xlpL_ok {M : Mo} (h : M.OK) (now : Int) : ∀ x ∈ xlpL M now, x.OK := fun x hx => by
  unfold xlpL at hx
  split at hx
  · rename_i hm
    obtain ⟨y, hy, rfl⟩ := List.mem_map.1 hx
    have o := (h.es y (List.mem_filter.1 hy).1).1.s
    exact ⟨o.id, o.idz, by0, fun _ _ => rfl, o.g, o.tx, by show (⟨#[]⟩ : ByteArray).size ≤ _; decide, o.r, ⟨by show _ ≤ (3 : Int); decide, by show (3 : Int) ≤ _; decide⟩, i64s (minB_iff.1 hm)⟩
  · cases hx
theorem xclM_no {M : Mo} {g : ByteArray} {a : Nat → Int} {now : Int} (h : xclE M g a now ≠ 0) : xclM M g a now = M ∧ xclS M g a now = sbz := by
  unfold xclM xclS
  rw [if_neg h, if_neg h]; exact ⟨rfl, rfl⟩
theorem txO_eq (t : ByteArray) : t.extract 0 (if (300 : Int) < (t.size : Int) then 300 else (t.size : Int)).toNat = txO t := by
  unfold txO
  congr 1
  split <;> omega
theorem txO_sz (t : ByteArray) : (txO t).size ≤ 300 := by unfold txO; rw [ByteArray.size_extract]; omega
theorem moL_len {i a : Int} : (moL i a).length = (a.tmod 12).toNat := by unfold moL; simp
/-- The authors that were made so far. -/
def moT (i a : Int) (j : Nat) : List (Nat → Int) := (List.range j).map fun k : Nat => auK i a (k : Int)
theorem moT_succ (i a : Int) (j : Nat) : moT i a (j + 1) = moT i a j ++ [auK i a (j : Int)] := by unfold moT; rw [List.range_succ, List.map_append]; rfl
end Go.Proofs.YtfacflbmlfbeeaaGreatDoor

/- The formulas of functions by the symbolic evaluator, and that each gives the call's contract. Written by a program (gen.py). No condition. -/
namespace Go.Proofs.YtfacflbmlfbeeaaGreatDoor
set_option maxRecDepth 100000
set_option linter.unusedVariables false

def VC_ldo (b : Nat) (m : Nat) (k : Int) (i : Int) (g : Int) (a : Int) (now : Int) (t : ByteArray) (w : World) (R : Ending -> World -> Prop) : Prop := ∀ (n : Nat) (W : World), Loc w.heap.size [Blk.mk n 66 [Value.int .u8 k, .int .u8 i, .int .u8 g, .int .u8 a, .int .i64 now, .string t] 2] w W -> ∃ (J : List Value -> World -> Prop), (∀ (W_1 : World), Loc w.heap.size [Blk.mk n 66 [Value.int .u8 k, .int .u8 i, .int .u8 g, .int .u8 a, .int .i64 now, .string t] 0] W W_1 -> ∃ (S : World -> Prop), S W_1 /\ ∃ (x : Int), (∀ (w' : World), S w' -> w'.cell? (Addr.mk n (0 + 1) none) = some (.int .u8 x)) /\ ∃ (x_1 : Int), (∀ (w' : World), S w' -> w'.cell? (Addr.mk n (0 + 2) none) = some (.int .u8 x_1)) /\ ∃ (x_2 : Int), (∀ (w' : World), S w' -> w'.cell? (Addr.mk n (0 + 3) none) = some (.int .u8 x_2)) /\ (CallsS Tryz.prog 29 #[.int .u8 x] W_1 fun (e : Ending) (w' : World) => ∃ (f : Nat -> Int), e =
 .returned (.agg (arrI .u8 f 32 0).toArray) /\ S w' /\ (CallsS Tryz.prog 30 #[.int .u8 x_1] w' fun (e : Ending) (w' : World) => ∃ (x : ByteArray), e = .returned (.string x) /\ S w' /\ (CallsS Tryz.prog 20 #[.int .u8 x_2] w' fun (e : Ending) (w' : World) => ∃ (f_1 : Nat -> Int), e = .returned (.agg (arrI .u8 f_1 16 0).toArray) /\ (∀ (n_1 : Nat) (w1 : World), NewB w' (Obj.cells #[.int .u8 0, .int .u8 0, .int .u8 0, .int .u8 0, .int .u8 0, .int .u8 0, .int .u8 0, .int .u8 0, .int .u8 0, .int .u8 0, .int .u8 0, .int .u8 0, .int .u8 0, .int .u8 0, .int .u8 0, .int .u8 0, .int .u8 0, .int .u8 0, .int .u8 0, .int .u8 0, .int .u8 0, .int .u8 0, .int .u8 0, .int .u8 0, .int .u8 0, .int .u8 0, .int .u8 0, .int .u8 0, .int .u8 0, .int .u8 0, .int .u8 0, .int .u8 0] 32) n_1 w1 -> S w1 /\ ∀ (n_2 : Nat) (w1_1 : World), NewB w1 (Obj.cells #[.int .u8 0, .int .u8 0, .int .u8 0,
 .int .u8 0, .int .u8 0, .int .u8 0, .int .u8 0, .int .u8 0, .int .u8 0, .int .u8 0, .int .u8 0, .int .u8 0, .int .u8 0, .int .u8 0, .int .u8 0, .int .u8 0] 45) n_2 w1_1 -> S w1_1 /\ WrL w1_1 n_1 0 32 /\ ∀ (w1 : World), PutB w1_1 n_1 0 (arrI .u8 f 32 0) w1 -> WrL w1 n_2 0 16 /\ ∀ (w1_2 : World), PutB w1 n_2 0 (arrI .u8 f_1 16 0) w1_2 -> KeptL [n] W_1 w1_2 /\ J [Value.string x, .pointer (some (Addr.mk n_1 0 none)), .pointer (some (Addr.mk n_2 0 none))] w1_2) /\ ∀ (n_1 : Nat) (w1 : World), NewB w' (Obj.cells #[.int .u8 0, .int .u8 0, .int .u8 0, .int .u8 0, .int .u8 0, .int .u8 0, .int .u8 0, .int .u8 0, .int .u8 0, .int .u8 0, .int .u8 0, .int .u8 0, .int .u8 0, .int .u8 0, .int .u8 0, .int .u8 0] 45) n_1 w1 -> S w1 /\ ∀ (n_2 : Nat) (w1_1 : World), NewB w1 (Obj.cells #[.int .u8 0, .int .u8 0, .int .u8 0, .int .u8 0, .int .u8 0, .int .u8 0, .int .u8 0, .int .u8 0, .int .u8 0,
 .int .u8 0, .int .u8 0, .int .u8 0, .int .u8 0, .int .u8 0, .int .u8 0, .int .u8 0, .int .u8 0, .int .u8 0, .int .u8 0, .int .u8 0, .int .u8 0, .int .u8 0, .int .u8 0, .int .u8 0, .int .u8 0, .int .u8 0, .int .u8 0, .int .u8 0, .int .u8 0, .int .u8 0, .int .u8 0, .int .u8 0] 32) n_2 w1_1 -> S w1_1 /\ WrL w1_1 n_2 0 32 /\ ∀ (w1 : World), PutB w1_1 n_2 0 (arrI .u8 f 32 0) w1 -> WrL w1 n_1 0 16 /\ ∀ (w1_2 : World), PutB w1 n_1 0 (arrI .u8 f_1 16 0) w1_2 -> KeptL [n] W_1 w1_2 /\ J [Value.string x, .pointer (some (Addr.mk n_2 0 none)), .pointer (some (Addr.mk n_1 0 none))] w1_2) /\ (∀ (n_1 : Nat) (w1 : World), NewB w' (Obj.cells #[.int .u8 0, .int .u8 0, .int .u8 0, .int .u8 0, .int .u8 0, .int .u8 0, .int .u8 0, .int .u8 0, .int .u8 0, .int .u8 0, .int .u8 0, .int .u8 0, .int .u8 0, .int .u8 0, .int .u8 0, .int .u8 0, .int .u8 0, .int .u8 0, .int .u8 0, .int .u8 0, .int .u8 0,
 .int .u8 0, .int .u8 0, .int .u8 0, .int .u8 0, .int .u8 0, .int .u8 0, .int .u8 0, .int .u8 0, .int .u8 0, .int .u8 0, .int .u8 0] 32) n_1 w1 -> S w1 /\ (CallsS Tryz.prog 20 #[.int .u8 x_2] w1 fun (e : Ending) (w' : World) => ∃ (f_1 : Nat -> Int), e = .returned (.agg (arrI .u8 f_1 16 0).toArray) /\ ∀ (n_2 : Nat) (w1 : World), NewB w' (Obj.cells #[.int .u8 0, .int .u8 0, .int .u8 0, .int .u8 0, .int .u8 0, .int .u8 0, .int .u8 0, .int .u8 0, .int .u8 0, .int .u8 0, .int .u8 0, .int .u8 0, .int .u8 0, .int .u8 0, .int .u8 0, .int .u8 0] 45) n_2 w1 -> S w1 /\ WrL w1 n_1 0 32 /\ ∀ (w1_1 : World), PutB w1 n_1 0 (arrI .u8 f 32 0) w1_1 -> WrL w1_1 n_2 0 16 /\ ∀ (w1 : World), PutB w1_1 n_2 0 (arrI .u8 f_1 16 0) w1 -> KeptL [n] W_1 w1 /\ J [Value.string x, .pointer (some (Addr.mk n_1 0 none)), .pointer (some (Addr.mk n_2 0 none))] w1) /\ ∀ (n_2 : Nat) (w1_1 : World), NewB w1 (Obj.cells
 #[.int .u8 0, .int .u8 0, .int .u8 0, .int .u8 0, .int .u8 0, .int .u8 0, .int .u8 0, .int .u8 0, .int .u8 0, .int .u8 0, .int .u8 0, .int .u8 0, .int .u8 0, .int .u8 0, .int .u8 0, .int .u8 0] 45) n_2 w1_1 -> S w1_1 /\ CallsS Tryz.prog 20 #[.int .u8 x_2] w1_1 fun (e : Ending) (w' : World) => ∃ (f_1 : Nat -> Int), e = .returned (.agg (arrI .u8 f_1 16 0).toArray) /\ WrL w' n_1 0 32 /\ ∀ (w1 : World), PutB w' n_1 0 (arrI .u8 f 32 0) w1 -> WrL w1 n_2 0 16 /\ ∀ (w1_2 : World), PutB w1 n_2 0 (arrI .u8 f_1 16 0) w1_2 -> KeptL [n] W_1 w1_2 /\ J [Value.string x, .pointer (some (Addr.mk n_1 0 none)), .pointer (some (Addr.mk n_2 0 none))] w1_2) /\ ∀ (n_1 : Nat) (w1 : World), NewB w' (Obj.cells #[.int .u8 0, .int .u8 0, .int .u8 0, .int .u8 0, .int .u8 0, .int .u8 0, .int .u8 0, .int .u8 0, .int .u8 0, .int .u8 0, .int .u8 0, .int .u8 0, .int .u8 0, .int .u8 0, .int .u8 0, .int .u8 0] 45)
 n_1 w1 -> S w1 /\ (CallsS Tryz.prog 20 #[.int .u8 x_2] w1 fun (e : Ending) (w' : World) => ∃ (f_1 : Nat -> Int), e = .returned (.agg (arrI .u8 f_1 16 0).toArray) /\ ∀ (n_2 : Nat) (w1 : World), NewB w' (Obj.cells #[.int .u8 0, .int .u8 0, .int .u8 0, .int .u8 0, .int .u8 0, .int .u8 0, .int .u8 0, .int .u8 0, .int .u8 0, .int .u8 0, .int .u8 0, .int .u8 0, .int .u8 0, .int .u8 0, .int .u8 0, .int .u8 0, .int .u8 0, .int .u8 0, .int .u8 0, .int .u8 0, .int .u8 0, .int .u8 0, .int .u8 0, .int .u8 0, .int .u8 0, .int .u8 0, .int .u8 0, .int .u8 0, .int .u8 0, .int .u8 0, .int .u8 0, .int .u8 0] 32) n_2 w1 -> S w1 /\ WrL w1 n_2 0 32 /\ ∀ (w1_1 : World), PutB w1 n_2 0 (arrI .u8 f 32 0) w1_1 -> WrL w1_1 n_1 0 16 /\ ∀ (w1 : World), PutB w1_1 n_1 0 (arrI .u8 f_1 16 0) w1 -> KeptL [n] W_1 w1 /\ J [Value.string x, .pointer (some (Addr.mk n_2 0 none)), .pointer (some (Addr.mk n_1 0 none))] w1) /\
 ∀ (n_2 : Nat) (w1_1 : World), NewB w1 (Obj.cells #[.int .u8 0, .int .u8 0, .int .u8 0, .int .u8 0, .int .u8 0, .int .u8 0, .int .u8 0, .int .u8 0, .int .u8 0, .int .u8 0, .int .u8 0, .int .u8 0, .int .u8 0, .int .u8 0, .int .u8 0, .int .u8 0, .int .u8 0, .int .u8 0, .int .u8 0, .int .u8 0, .int .u8 0, .int .u8 0, .int .u8 0, .int .u8 0, .int .u8 0, .int .u8 0, .int .u8 0, .int .u8 0, .int .u8 0, .int .u8 0, .int .u8 0, .int .u8 0] 32) n_2 w1_1 -> S w1_1 /\ CallsS Tryz.prog 20 #[.int .u8 x_2] w1_1 fun (e : Ending) (w' : World) => ∃ (f_1 : Nat -> Int), e = .returned (.agg (arrI .u8 f_1 16 0).toArray) /\ WrL w' n_2 0 32 /\ ∀ (w1 : World), PutB w' n_2 0 (arrI .u8 f 32 0) w1 -> WrL w1 n_1 0 16 /\ ∀ (w1_2 : World), PutB w1 n_1 0 (arrI .u8 f_1 16 0) w1_2 -> KeptL [n] W_1 w1_2 /\ J [Value.string x, .pointer (some (Addr.mk n_2 0 none)), .pointer (some (Addr.mk n_1 0 none))] w1_2) /\
 (∀ (n_1 : Nat) (w1 : World), NewB w' (Obj.cells #[.int .u8 0, .int .u8 0, .int .u8 0, .int .u8 0, .int .u8 0, .int .u8 0, .int .u8 0, .int .u8 0, .int .u8 0, .int .u8 0, .int .u8 0, .int .u8 0, .int .u8 0, .int .u8 0, .int .u8 0, .int .u8 0, .int .u8 0, .int .u8 0, .int .u8 0, .int .u8 0, .int .u8 0, .int .u8 0, .int .u8 0, .int .u8 0, .int .u8 0, .int .u8 0, .int .u8 0, .int .u8 0, .int .u8 0, .int .u8 0, .int .u8 0, .int .u8 0] 32) n_1 w1 -> S w1 /\ (CallsS Tryz.prog 30 #[.int .u8 x_1] w1 fun (e : Ending) (w' : World) => ∃ (x : ByteArray), e = .returned (.string x) /\ S w' /\ (CallsS Tryz.prog 20 #[.int .u8 x_2] w' fun (e : Ending) (w' : World) => ∃ (f_1 : Nat -> Int), e = .returned (.agg (arrI .u8 f_1 16 0).toArray) /\ ∀ (n_2 : Nat) (w1 : World), NewB w' (Obj.cells #[.int .u8 0, .int .u8 0, .int .u8 0, .int .u8 0, .int .u8 0, .int .u8 0, .int .u8 0, .int .u8 0, .int .u8 0,
 .int .u8 0, .int .u8 0, .int .u8 0, .int .u8 0, .int .u8 0, .int .u8 0, .int .u8 0] 45) n_2 w1 -> S w1 /\ WrL w1 n_1 0 32 /\ ∀ (w1_1 : World), PutB w1 n_1 0 (arrI .u8 f 32 0) w1_1 -> WrL w1_1 n_2 0 16 /\ ∀ (w1 : World), PutB w1_1 n_2 0 (arrI .u8 f_1 16 0) w1 -> KeptL [n] W_1 w1 /\ J [Value.string x, .pointer (some (Addr.mk n_1 0 none)), .pointer (some (Addr.mk n_2 0 none))] w1) /\ ∀ (n_2 : Nat) (w1 : World), NewB w' (Obj.cells #[.int .u8 0, .int .u8 0, .int .u8 0, .int .u8 0, .int .u8 0, .int .u8 0, .int .u8 0, .int .u8 0, .int .u8 0, .int .u8 0, .int .u8 0, .int .u8 0, .int .u8 0, .int .u8 0, .int .u8 0, .int .u8 0] 45) n_2 w1 -> S w1 /\ CallsS Tryz.prog 20 #[.int .u8 x_2] w1 fun (e : Ending) (w' : World) => ∃ (f_1 : Nat -> Int), e = .returned (.agg (arrI .u8 f_1 16 0).toArray) /\ WrL w' n_1 0 32 /\ ∀ (w1 : World), PutB w' n_1 0 (arrI .u8 f 32 0) w1 -> WrL w1 n_2 0 16 /\
 ∀ (w1_1 : World), PutB w1 n_2 0 (arrI .u8 f_1 16 0) w1_1 -> KeptL [n] W_1 w1_1 /\ J [Value.string x, .pointer (some (Addr.mk n_1 0 none)), .pointer (some (Addr.mk n_2 0 none))] w1_1) /\ ∀ (n_2 : Nat) (w1_1 : World), NewB w1 (Obj.cells #[.int .u8 0, .int .u8 0, .int .u8 0, .int .u8 0, .int .u8 0, .int .u8 0, .int .u8 0, .int .u8 0, .int .u8 0, .int .u8 0, .int .u8 0, .int .u8 0, .int .u8 0, .int .u8 0, .int .u8 0, .int .u8 0] 45) n_2 w1_1 -> S w1_1 /\ CallsS Tryz.prog 30 #[.int .u8 x_1] w1_1 fun (e : Ending) (w' : World) => ∃ (x : ByteArray), e = .returned (.string x) /\ S w' /\ CallsS Tryz.prog 20 #[.int .u8 x_2] w' fun (e : Ending) (w' : World) => ∃ (f_1 : Nat -> Int), e = .returned (.agg (arrI .u8 f_1 16 0).toArray) /\ WrL w' n_1 0 32 /\ ∀ (w1 : World), PutB w' n_1 0 (arrI .u8 f 32 0) w1 -> WrL w1 n_2 0 16 /\ ∀ (w1_2 : World), PutB w1 n_2 0 (arrI .u8 f_1 16 0) w1_2 ->
 KeptL [n] W_1 w1_2 /\ J [Value.string x, .pointer (some (Addr.mk n_1 0 none)), .pointer (some (Addr.mk n_2 0 none))] w1_2) /\ ∀ (n_1 : Nat) (w1 : World), NewB w' (Obj.cells #[.int .u8 0, .int .u8 0, .int .u8 0, .int .u8 0, .int .u8 0, .int .u8 0, .int .u8 0, .int .u8 0, .int .u8 0, .int .u8 0, .int .u8 0, .int .u8 0, .int .u8 0, .int .u8 0, .int .u8 0, .int .u8 0] 45) n_1 w1 -> S w1 /\ (CallsS Tryz.prog 30 #[.int .u8 x_1] w1 fun (e : Ending) (w' : World) => ∃ (x : ByteArray), e = .returned (.string x) /\ S w' /\ (CallsS Tryz.prog 20 #[.int .u8 x_2] w' fun (e : Ending) (w' : World) => ∃ (f_1 : Nat -> Int), e = .returned (.agg (arrI .u8 f_1 16 0).toArray) /\ ∀ (n_2 : Nat) (w1 : World), NewB w' (Obj.cells #[.int .u8 0, .int .u8 0, .int .u8 0, .int .u8 0, .int .u8 0, .int .u8 0, .int .u8 0, .int .u8 0, .int .u8 0, .int .u8 0, .int .u8 0, .int .u8 0, .int .u8 0, .int .u8 0, .int .u8 0,
 .int .u8 0, .int .u8 0, .int .u8 0, .int .u8 0, .int .u8 0, .int .u8 0, .int .u8 0, .int .u8 0, .int .u8 0, .int .u8 0, .int .u8 0, .int .u8 0, .int .u8 0, .int .u8 0, .int .u8 0, .int .u8 0, .int .u8 0] 32) n_2 w1 -> S w1 /\ WrL w1 n_2 0 32 /\ ∀ (w1_1 : World), PutB w1 n_2 0 (arrI .u8 f 32 0) w1_1 -> WrL w1_1 n_1 0 16 /\ ∀ (w1 : World), PutB w1_1 n_1 0 (arrI .u8 f_1 16 0) w1 -> KeptL [n] W_1 w1 /\ J [Value.string x, .pointer (some (Addr.mk n_2 0 none)), .pointer (some (Addr.mk n_1 0 none))] w1) /\ ∀ (n_2 : Nat) (w1 : World), NewB w' (Obj.cells #[.int .u8 0, .int .u8 0, .int .u8 0, .int .u8 0, .int .u8 0, .int .u8 0, .int .u8 0, .int .u8 0, .int .u8 0, .int .u8 0, .int .u8 0, .int .u8 0, .int .u8 0, .int .u8 0, .int .u8 0, .int .u8 0, .int .u8 0, .int .u8 0, .int .u8 0, .int .u8 0, .int .u8 0, .int .u8 0, .int .u8 0, .int .u8 0, .int .u8 0, .int .u8 0, .int .u8 0,
 .int .u8 0, .int .u8 0, .int .u8 0, .int .u8 0, .int .u8 0] 32) n_2 w1 -> S w1 /\ CallsS Tryz.prog 20 #[.int .u8 x_2] w1 fun (e : Ending) (w' : World) => ∃ (f_1 : Nat -> Int), e = .returned (.agg (arrI .u8 f_1 16 0).toArray) /\ WrL w' n_2 0 32 /\ ∀ (w1 : World), PutB w' n_2 0 (arrI .u8 f 32 0) w1 -> WrL w1 n_1 0 16 /\ ∀ (w1_1 : World), PutB w1 n_1 0 (arrI .u8 f_1 16 0) w1_1 -> KeptL [n] W_1 w1_1 /\ J [Value.string x, .pointer (some (Addr.mk n_2 0 none)), .pointer (some (Addr.mk n_1 0 none))] w1_1) /\ ∀ (n_2 : Nat) (w1_1 : World), NewB w1 (Obj.cells #[.int .u8 0, .int .u8 0, .int .u8 0, .int .u8 0, .int .u8 0, .int .u8 0, .int .u8 0, .int .u8 0, .int .u8 0, .int .u8 0, .int .u8 0, .int .u8 0, .int .u8 0, .int .u8 0, .int .u8 0, .int .u8 0, .int .u8 0, .int .u8 0, .int .u8 0, .int .u8 0, .int .u8 0, .int .u8 0, .int .u8 0, .int .u8 0, .int .u8 0, .int .u8 0, .int .u8 0,
 .int .u8 0, .int .u8 0, .int .u8 0, .int .u8 0, .int .u8 0] 32) n_2 w1_1 -> S w1_1 /\ CallsS Tryz.prog 30 #[.int .u8 x_1] w1_1 fun (e : Ending) (w' : World) => ∃ (x : ByteArray), e = .returned (.string x) /\ S w' /\ CallsS Tryz.prog 20 #[.int .u8 x_2] w' fun (e : Ending) (w' : World) => ∃ (f_1 : Nat -> Int), e = .returned (.agg (arrI .u8 f_1 16 0).toArray) /\ WrL w' n_2 0 32 /\ ∀ (w1 : World), PutB w' n_2 0 (arrI .u8 f 32 0) w1 -> WrL w1 n_1 0 16 /\ ∀ (w1_2 : World), PutB w1 n_1 0 (arrI .u8 f_1 16 0) w1_2 -> KeptL [n] W_1 w1_2 /\ J [Value.string x, .pointer (some (Addr.mk n_2 0 none)), .pointer (some (Addr.mk n_1 0 none))] w1_2) /\ (∀ (n_1 : Nat) (w1 : World), NewB W_1 (Obj.cells #[.int .u8 0, .int .u8 0, .int .u8 0, .int .u8 0, .int .u8 0, .int .u8 0, .int .u8 0, .int .u8 0, .int .u8 0, .int .u8 0, .int .u8 0, .int .u8 0, .int .u8 0, .int .u8 0, .int .u8 0, .int .u8 0,
 .int .u8 0, .int .u8 0, .int .u8 0, .int .u8 0, .int .u8 0, .int .u8 0, .int .u8 0, .int .u8 0, .int .u8 0, .int .u8 0, .int .u8 0, .int .u8 0, .int .u8 0, .int .u8 0, .int .u8 0, .int .u8 0] 32) n_1 w1 -> S w1 /\ (CallsS Tryz.prog 29 #[.int .u8 x] w1 fun (e : Ending) (w' : World) => ∃ (f : Nat -> Int), e = .returned (.agg (arrI .u8 f 32 0).toArray) /\ S w' /\ (CallsS Tryz.prog 30 #[.int .u8 x_1] w' fun (e : Ending) (w' : World) => ∃ (x : ByteArray), e = .returned (.string x) /\ S w' /\ (CallsS Tryz.prog 20 #[.int .u8 x_2] w' fun (e : Ending) (w' : World) => ∃ (f_1 : Nat -> Int), e = .returned (.agg (arrI .u8 f_1 16 0).toArray) /\ ∀ (n_2 : Nat) (w1 : World), NewB w' (Obj.cells #[.int .u8 0, .int .u8 0, .int .u8 0, .int .u8 0, .int .u8 0, .int .u8 0, .int .u8 0, .int .u8 0, .int .u8 0, .int .u8 0, .int .u8 0, .int .u8 0, .int .u8 0, .int .u8 0, .int .u8 0, .int .u8 0] 45) n_2 w1 ->
 S w1 /\ WrL w1 n_1 0 32 /\ ∀ (w1_1 : World), PutB w1 n_1 0 (arrI .u8 f 32 0) w1_1 -> WrL w1_1 n_2 0 16 /\ ∀ (w1 : World), PutB w1_1 n_2 0 (arrI .u8 f_1 16 0) w1 -> KeptL [n] W_1 w1 /\ J [Value.string x, .pointer (some (Addr.mk n_1 0 none)), .pointer (some (Addr.mk n_2 0 none))] w1) /\ ∀ (n_2 : Nat) (w1 : World), NewB w' (Obj.cells #[.int .u8 0, .int .u8 0, .int .u8 0, .int .u8 0, .int .u8 0, .int .u8 0, .int .u8 0, .int .u8 0, .int .u8 0, .int .u8 0, .int .u8 0, .int .u8 0, .int .u8 0, .int .u8 0, .int .u8 0, .int .u8 0] 45) n_2 w1 -> S w1 /\ CallsS Tryz.prog 20 #[.int .u8 x_2] w1 fun (e : Ending) (w' : World) => ∃ (f_1 : Nat -> Int), e = .returned (.agg (arrI .u8 f_1 16 0).toArray) /\ WrL w' n_1 0 32 /\ ∀ (w1 : World), PutB w' n_1 0 (arrI .u8 f 32 0) w1 -> WrL w1 n_2 0 16 /\ ∀ (w1_1 : World), PutB w1 n_2 0 (arrI .u8 f_1 16 0) w1_1 -> KeptL [n] W_1 w1_1 /\ J
 [Value.string x, .pointer (some (Addr.mk n_1 0 none)), .pointer (some (Addr.mk n_2 0 none))] w1_1) /\ ∀ (n_2 : Nat) (w1 : World), NewB w' (Obj.cells #[.int .u8 0, .int .u8 0, .int .u8 0, .int .u8 0, .int .u8 0, .int .u8 0, .int .u8 0, .int .u8 0, .int .u8 0, .int .u8 0, .int .u8 0, .int .u8 0, .int .u8 0, .int .u8 0, .int .u8 0, .int .u8 0] 45) n_2 w1 -> S w1 /\ CallsS Tryz.prog 30 #[.int .u8 x_1] w1 fun (e : Ending) (w' : World) => ∃ (x : ByteArray), e = .returned (.string x) /\ S w' /\ CallsS Tryz.prog 20 #[.int .u8 x_2] w' fun (e : Ending) (w' : World) => ∃ (f_1 : Nat -> Int), e = .returned (.agg (arrI .u8 f_1 16 0).toArray) /\ WrL w' n_1 0 32 /\ ∀ (w1 : World), PutB w' n_1 0 (arrI .u8 f 32 0) w1 -> WrL w1 n_2 0 16 /\ ∀ (w1_1 : World), PutB w1 n_2 0 (arrI .u8 f_1 16 0) w1_1 -> KeptL [n] W_1 w1_1 /\ J [Value.string x, .pointer (some (Addr.mk n_1 0 none)),
 .pointer (some (Addr.mk n_2 0 none))] w1_1) /\ ∀ (n_2 : Nat) (w1_1 : World), NewB w1 (Obj.cells #[.int .u8 0, .int .u8 0, .int .u8 0, .int .u8 0, .int .u8 0, .int .u8 0, .int .u8 0, .int .u8 0, .int .u8 0, .int .u8 0, .int .u8 0, .int .u8 0, .int .u8 0, .int .u8 0, .int .u8 0, .int .u8 0] 45) n_2 w1_1 -> S w1_1 /\ CallsS Tryz.prog 29 #[.int .u8 x] w1_1 fun (e : Ending) (w' : World) => ∃ (f : Nat -> Int), e = .returned (.agg (arrI .u8 f 32 0).toArray) /\ S w' /\ CallsS Tryz.prog 30 #[.int .u8 x_1] w' fun (e : Ending) (w' : World) => ∃ (x : ByteArray), e = .returned (.string x) /\ S w' /\ CallsS Tryz.prog 20 #[.int .u8 x_2] w' fun (e : Ending) (w' : World) => ∃ (f_1 : Nat -> Int), e = .returned (.agg (arrI .u8 f_1 16 0).toArray) /\ WrL w' n_1 0 32 /\ ∀ (w1 : World), PutB w' n_1 0 (arrI .u8 f 32 0) w1 -> WrL w1 n_2 0 16 /\ ∀ (w1_2 : World), PutB w1 n_2 0 (arrI .u8 f_1 16 0) w1_2 ->
 KeptL [n] W_1 w1_2 /\ J [Value.string x, .pointer (some (Addr.mk n_1 0 none)), .pointer (some (Addr.mk n_2 0 none))] w1_2) /\ ∀ (n_1 : Nat) (w1 : World), NewB W_1 (Obj.cells #[.int .u8 0, .int .u8 0, .int .u8 0, .int .u8 0, .int .u8 0, .int .u8 0, .int .u8 0, .int .u8 0, .int .u8 0, .int .u8 0, .int .u8 0, .int .u8 0, .int .u8 0, .int .u8 0, .int .u8 0, .int .u8 0] 45) n_1 w1 -> S w1 /\ (CallsS Tryz.prog 29 #[.int .u8 x] w1 fun (e : Ending) (w' : World) => ∃ (f : Nat -> Int), e = .returned (.agg (arrI .u8 f 32 0).toArray) /\ S w' /\ (CallsS Tryz.prog 30 #[.int .u8 x_1] w' fun (e : Ending) (w' : World) => ∃ (x : ByteArray), e = .returned (.string x) /\ S w' /\ (CallsS Tryz.prog 20 #[.int .u8 x_2] w' fun (e : Ending) (w' : World) => ∃ (f_1 : Nat -> Int), e = .returned (.agg (arrI .u8 f_1 16 0).toArray) /\ ∀ (n_2 : Nat) (w1 : World), NewB w' (Obj.cells
 #[.int .u8 0, .int .u8 0, .int .u8 0, .int .u8 0, .int .u8 0, .int .u8 0, .int .u8 0, .int .u8 0, .int .u8 0, .int .u8 0, .int .u8 0, .int .u8 0, .int .u8 0, .int .u8 0, .int .u8 0, .int .u8 0, .int .u8 0, .int .u8 0, .int .u8 0, .int .u8 0, .int .u8 0, .int .u8 0, .int .u8 0, .int .u8 0, .int .u8 0, .int .u8 0, .int .u8 0, .int .u8 0, .int .u8 0, .int .u8 0, .int .u8 0, .int .u8 0] 32) n_2 w1 -> S w1 /\ WrL w1 n_2 0 32 /\ ∀ (w1_1 : World), PutB w1 n_2 0 (arrI .u8 f 32 0) w1_1 -> WrL w1_1 n_1 0 16 /\ ∀ (w1 : World), PutB w1_1 n_1 0 (arrI .u8 f_1 16 0) w1 -> KeptL [n] W_1 w1 /\ J [Value.string x, .pointer (some (Addr.mk n_2 0 none)), .pointer (some (Addr.mk n_1 0 none))] w1) /\ ∀ (n_2 : Nat) (w1 : World), NewB w' (Obj.cells #[.int .u8 0, .int .u8 0, .int .u8 0, .int .u8 0, .int .u8 0, .int .u8 0, .int .u8 0, .int .u8 0, .int .u8 0, .int .u8 0, .int .u8 0, .int .u8 0,
 .int .u8 0, .int .u8 0, .int .u8 0, .int .u8 0, .int .u8 0, .int .u8 0, .int .u8 0, .int .u8 0, .int .u8 0, .int .u8 0, .int .u8 0, .int .u8 0, .int .u8 0, .int .u8 0, .int .u8 0, .int .u8 0, .int .u8 0, .int .u8 0, .int .u8 0, .int .u8 0] 32) n_2 w1 -> S w1 /\ CallsS Tryz.prog 20 #[.int .u8 x_2] w1 fun (e : Ending) (w' : World) => ∃ (f_1 : Nat -> Int), e = .returned (.agg (arrI .u8 f_1 16 0).toArray) /\ WrL w' n_2 0 32 /\ ∀ (w1 : World), PutB w' n_2 0 (arrI .u8 f 32 0) w1 -> WrL w1 n_1 0 16 /\ ∀ (w1_1 : World), PutB w1 n_1 0 (arrI .u8 f_1 16 0) w1_1 -> KeptL [n] W_1 w1_1 /\ J [Value.string x, .pointer (some (Addr.mk n_2 0 none)), .pointer (some (Addr.mk n_1 0 none))] w1_1) /\ ∀ (n_2 : Nat) (w1 : World), NewB w' (Obj.cells #[.int .u8 0, .int .u8 0, .int .u8 0, .int .u8 0, .int .u8 0, .int .u8 0, .int .u8 0, .int .u8 0, .int .u8 0, .int .u8 0, .int .u8 0, .int .u8 0,
 .int .u8 0, .int .u8 0, .int .u8 0, .int .u8 0, .int .u8 0, .int .u8 0, .int .u8 0, .int .u8 0, .int .u8 0, .int .u8 0, .int .u8 0, .int .u8 0, .int .u8 0, .int .u8 0, .int .u8 0, .int .u8 0, .int .u8 0, .int .u8 0, .int .u8 0, .int .u8 0] 32) n_2 w1 -> S w1 /\ CallsS Tryz.prog 30 #[.int .u8 x_1] w1 fun (e : Ending) (w' : World) => ∃ (x : ByteArray), e = .returned (.string x) /\ S w' /\ CallsS Tryz.prog 20 #[.int .u8 x_2] w' fun (e : Ending) (w' : World) => ∃ (f_1 : Nat -> Int), e = .returned (.agg (arrI .u8 f_1 16 0).toArray) /\ WrL w' n_2 0 32 /\ ∀ (w1 : World), PutB w' n_2 0 (arrI .u8 f 32 0) w1 -> WrL w1 n_1 0 16 /\ ∀ (w1_1 : World), PutB w1 n_1 0 (arrI .u8 f_1 16 0) w1_1 -> KeptL [n] W_1 w1_1 /\ J [Value.string x, .pointer (some (Addr.mk n_2 0 none)), .pointer (some (Addr.mk n_1 0 none))] w1_1) /\ ∀ (n_2 : Nat) (w1_1 : World), NewB w1 (Obj.cells
 #[.int .u8 0, .int .u8 0, .int .u8 0, .int .u8 0, .int .u8 0, .int .u8 0, .int .u8 0, .int .u8 0, .int .u8 0, .int .u8 0, .int .u8 0, .int .u8 0, .int .u8 0, .int .u8 0, .int .u8 0, .int .u8 0, .int .u8 0, .int .u8 0, .int .u8 0, .int .u8 0, .int .u8 0, .int .u8 0, .int .u8 0, .int .u8 0, .int .u8 0, .int .u8 0, .int .u8 0, .int .u8 0, .int .u8 0, .int .u8 0, .int .u8 0, .int .u8 0] 32) n_2 w1_1 -> S w1_1 /\ CallsS Tryz.prog 29 #[.int .u8 x] w1_1 fun (e : Ending) (w' : World) => ∃ (f : Nat -> Int), e = .returned (.agg (arrI .u8 f 32 0).toArray) /\ S w' /\ CallsS Tryz.prog 30 #[.int .u8 x_1] w' fun (e : Ending) (w' : World) => ∃ (x : ByteArray), e = .returned (.string x) /\ S w' /\ CallsS Tryz.prog 20 #[.int .u8 x_2] w' fun (e : Ending) (w' : World) => ∃ (f_1 : Nat -> Int), e = .returned (.agg (arrI .u8 f_1 16 0).toArray) /\ WrL w' n_2 0 32 /\ ∀ (w1 : World), PutB w' n_2 0
 (arrI .u8 f 32 0) w1 -> WrL w1 n_1 0 16 /\ ∀ (w1_2 : World), PutB w1 n_1 0 (arrI .u8 f_1 16 0) w1_2 -> KeptL [n] W_1 w1_2 /\ J [Value.string x, .pointer (some (Addr.mk n_2 0 none)), .pointer (some (Addr.mk n_1 0 none))] w1_2) /\ ∀ (x : ByteArray) (x_1 x_2 : Option Addr) (w' : World), J [Value.string x, .pointer x_1, .pointer x_2] w' -> Loc w.heap.size [Blk.mk n 66 [Value.int .u8 k, .int .u8 i, .int .u8 g, .int .u8 a, .int .i64 now, .string t] 0] w' w' -> ((0 <= if 300 < (↑t.size : Int) then 300 else (↑t.size : Int)) /\ (if 300 < (↑t.size : Int) then 300 else (↑t.size : Int)) <= (↑t.size : Int)) /\ bsp (k.tmod 8 == 0) (∀ (W : World), Loc w.heap.size [Blk.mk n 66 [Value.int .u8 k, .int .u8 i, .int .u8 g, .int .u8 a, .int .i64 now, .string t] 0] w' W -> ∃ (S : World -> Prop), S W /\ nn true x_1 fun (b_1 o : Nat) => ∃ (f : Nat -> Int), (∀ (w' : World), S w' -> AtL w' b_1 o
 (arrI .u8 f 32 0)) /\ ∃ (x_3 : Int), (∀ (w' : World), S w' -> w'.cell? (Addr.mk n (0 + 4) none) = some (.int .i64 x_3)) /\ nn true x_1 fun (b_2 o : Nat) => ∃ (f_1 : Nat -> Int), (∀ (w' : World), S w' -> AtL w' b_2 o (arrI .u8 f_1 32 0)) /\ ∃ (x_4 : Int), (∀ (w' : World), S w' -> w'.cell? (Addr.mk n (0 + 4) none) = some (.int .i64 x_4)) /\ CallsS Tryz.prog 18 #[.pointer (some (Addr.mk b 0 none)), .agg (arrI .u8 f 32 0).toArray, .string x, .string (t.extract 0 (if 300 < (↑t.size : Int) then 300 else (↑t.size : Int)).toNat), .int .i64 x_3] W fun (e : Ending) (w' : World) => ∃ (x_5 : Int), e = .returned (.int .i64 x_5) /\ S w' /\ CallsS Tryz.prog 26 #[.pointer (some (Addr.mk m 0 none)), .agg (arrI .u8 f_1 32 0).toArray, .string x, .string (t.extract 0 (if 300 < (↑t.size : Int) then 300 else (↑t.size : Int)).toNat), .int .i64 x_4] w' fun (e : Ending) (w' : World) => ∃ (x : Int),
 e = .returned (.int .i64 x) /\ KeptL [n] W w' /\ R (.returned (.bool (x_5 == x))) w') (bsp (k.tmod 8 == 1) (∃ (J : List Value -> World -> Prop), (nn true x_2 fun (b_1 o : Nat) => ∃ (f : Nat -> Int), AtL w' b_1 o (arrI .u8 f 16 0) /\ CallsS Tryz.prog 39 #[.pointer (some (Addr.mk b 0 none)), .string x, .agg (arrI .u8 f 16 0).toArray, .int .i64 now] w' fun (e : Ending) (w'_1 : World) => ∃ (f : Nat -> Int) (x : ByteArray), ∃ (x_3 : ByteArray) (x_4 : Int), ∃ (x_5 : Int) (f_1 : Nat -> Int), ∃ (x_6 : Int) (x_7 : ByteArray) (x_8 : Int), e = .returned (.tuple #[.agg (arrI .u8 f 32 0 ++ ([Value.string x, .string x_3, .int .i64 x_4, .int .i64 x_5] ++ arrI .u8 f_1 16 0 ++ [Value.int .i64 x_6, .string x_7])).toArray, .int .i64 x_8]) /\ KeptL [n] w' w'_1 /\ ∀ (n_1 : Nat) (W : World), Loc w.heap.size [Blk.mk n 66 [Value.int .u8 k, .int .u8 i, .int .u8 g,
 .int .u8 a, .int .i64 now, .string t] 0, Blk.mk n_1 48 (arrI .u8 f 32 0 ++ ([Value.string x, .string x_3, .int .i64 x_4, .int .i64 x_5] ++ arrI .u8 f_1 16 0 ++ [Value.int .i64 x_6, .string x_7])) (wrM 2)] w'_1 W -> J [Value.int .i64 x_8, .pointer (some (Addr.mk n_1 0 none))] W) /\ ∀ (x_3 : Int) (x_4 : Option Addr) (w' : World), J [Value.int .i64 x_3, .pointer x_4] w' -> Loc w.heap.size [Blk.mk n 66 [Value.int .u8 k, .int .u8 i, .int .u8 g, .int .u8 a, .int .i64 now, .string t] 0] w' w' -> ∃ (J : List Value -> World -> Prop), (nn true x_2 fun (b o : Nat) => ∃ (f : Nat -> Int), AtL w' b o (arrI .u8 f 16 0) /\ CallsS Tryz.prog 62 #[.pointer (some (Addr.mk m 0 none)), .string x, .agg (arrI .u8 f 16 0).toArray, .int .i64 now] w' fun (e : Ending) (w'_1 : World) => ∃ (f : Nat -> Int) (x : ByteArray), ∃ (x_5 : ByteArray) (x_6 : Int), ∃ (x_7 : Int) (f_1 : Nat -> Int) (x_8 : Int),
 ∃ (x_9 : ByteArray) (x_10 : Int), e = .returned (.tuple #[.agg (arrI .u8 f 32 0 ++ ([Value.string x, .string x_5, .int .i64 x_6, .int .i64 x_7] ++ arrI .u8 f_1 16 0 ++ [Value.int .i64 x_8, .string x_9])).toArray, .int .i64 x_10]) /\ KeptL [n] w' w'_1 /\ ∀ (n_1 : Nat) (W : World), Loc w.heap.size [Blk.mk n 66 [Value.int .u8 k, .int .u8 i, .int .u8 g, .int .u8 a, .int .i64 now, .string t] 0, Blk.mk n_1 48 (arrI .u8 f 32 0 ++ ([Value.string x, .string x_5, .int .i64 x_6, .int .i64 x_7] ++ arrI .u8 f_1 16 0 ++ [Value.int .i64 x_8, .string x_9])) (wrM 2)] w'_1 W -> J [Value.int .i64 x_10, .pointer (some (Addr.mk n_1 0 none))] W) /\ ∀ (x : Int) (x_5 : Option Addr) (w' : World), J [Value.int .i64 x, .pointer x_5] w' -> Loc w.heap.size [Blk.mk n 66 [Value.int .u8 k, .int .u8 i, .int .u8 g, .int .u8 a, .int .i64 now, .string t] 0] w' w' -> nn true x_4 fun (b o : Nat) => ∃ (f : Nat -> Int),
 ∃ (x_6 : ByteArray) (x_7 : ByteArray), ∃ (x_8 : Int) (x_9 : Int), ∃ (f_1 : Nat -> Int) (x_10 : Int) (x_11 : ByteArray), AtL w' b o (arrI .u8 f 32 0 ++ ([Value.string x_6, .string x_7, .int .i64 x_8, .int .i64 x_9] ++ arrI .u8 f_1 16 0 ++ [Value.int .i64 x_10, .string x_11])) /\ nn true x_5 fun (b o : Nat) => ∃ (f_2 : Nat -> Int) (x_12 : ByteArray), ∃ (x_13 : ByteArray) (x_14 : Int), ∃ (x_15 : Int) (f_3 : Nat -> Int), ∃ (x_16 : Int) (x_17 : ByteArray), AtL w' b o (arrI .u8 f_2 32 0 ++ ([Value.string x_12, .string x_13, .int .i64 x_14, .int .i64 x_15] ++ arrI .u8 f_3 16 0 ++ [Value.int .i64 x_16, .string x_17])) /\ ∃ (r : Bool), EqP Tryz.prog 48 (.agg (arrI .u8 f 32 0 ++ ([Value.string x_6, .string x_7, .int .i64 x_8, .int .i64 x_9] ++ arrI .u8 f_1 16 0 ++ [Value.int .i64 x_10, .string x_11])).toArray) (.agg
 (arrI .u8 f_2 32 0 ++ ([Value.string x_12, .string x_13, .int .i64 x_14, .int .i64 x_15] ++ arrI .u8 f_3 16 0 ++ [Value.int .i64 x_16, .string x_17])).toArray) r /\ R (.returned (.bool (r && x_3 == x))) w') (bsp (k.tmod 8 == 2) (∀ (W : World), Loc w.heap.size [Blk.mk n 66 [Value.int .u8 k, .int .u8 i, .int .u8 g, .int .u8 a, .int .i64 now, .string t] 0] w' W -> ∃ (S : World -> Prop), S W /\ nn true x_1 fun (b_1 o : Nat) => ∃ (f : Nat -> Int), (∀ (w' : World), S w' -> AtL w' b_1 o (arrI .u8 f 32 0)) /\ nn true x_2 fun (b_2 o : Nat) => ∃ (f_1 : Nat -> Int), (∀ (w' : World), S w' -> AtL w' b_2 o (arrI .u8 f_1 16 0)) /\ ∃ (x_3 : Int), (∀ (w' : World), S w' -> w'.cell? (Addr.mk n (0 + 4) none) = some (.int .i64 x_3)) /\ nn true x_1 fun (b_3 o : Nat) => ∃ (f_2 : Nat -> Int), (∀ (w' : World), S w' -> AtL w' b_3 o (arrI .u8 f_2 32 0)) /\ nn true x_2 fun (b_4 o : Nat) => ∃ (f_3 : Nat -> Int),
 (∀ (w' : World), S w' -> AtL w' b_4 o (arrI .u8 f_3 16 0)) /\ ∃ (x_4 : Int), (∀ (w' : World), S w' -> w'.cell? (Addr.mk n (0 + 4) none) = some (.int .i64 x_4)) /\ CallsS Tryz.prog 43 #[.pointer (some (Addr.mk b 0 none)), .agg (arrI .u8 f 32 0).toArray, .string x, .agg (arrI .u8 f_1 16 0).toArray, .int .i64 x_3] W fun (e : Ending) (w' : World) => ∃ (x_5 : Int), e = .returned (.int .i64 x_5) /\ S w' /\ CallsS Tryz.prog 63 #[.pointer (some (Addr.mk m 0 none)), .agg (arrI .u8 f_2 32 0).toArray, .string x, .agg (arrI .u8 f_3 16 0).toArray, .int .i64 x_4] w' fun (e : Ending) (w' : World) => ∃ (x : Int), e = .returned (.int .i64 x) /\ KeptL [n] W w' /\ R (.returned (.bool (x_5 == x))) w') (bsp (k.tmod 8 == 3) (∃ (J : List Value -> World -> Prop), (nn true x_1 fun (b_1 o : Nat) => ∃ (f : Nat -> Int), AtL w' b_1 o (arrI .u8 f 32 0) /\ nn true x_2 fun (b_2 o : Nat) => ∃ (f_1 : Nat -> Int),
 AtL w' b_2 o (arrI .u8 f_1 16 0) /\ CallsS Tryz.prog 19 #[.pointer (some (Addr.mk b 0 none)), .agg (arrI .u8 f 32 0).toArray, .string x, .agg (arrI .u8 f_1 16 0).toArray, .int .i64 now] w' fun (e : Ending) (w'_1 : World) => ∃ (x : Int) (f : Nat -> Int), ∃ (x_3 : ByteArray) (x_4 : Int), ∃ (x_5 : Bool) (p : Option Addr), ∃ (n_1 : Nat) (c : Nat), ∃ (x_6 : ByteArray) (x_7 : Int), ∃ (x_8 : Int) (f_2 : Nat -> Int) (x_9 : Int), e = .returned (.tuple #[.agg ([Value.int .i64 x] ++ arrI .u8 f 32 0 ++ ([Value.string x_3, .int .i64 x_4, .bool x_5, .slice p n_1 c, .string x_6, .int .i64 x_7, .int .i64 x_8] ++ arrI .u8 f_2 16 0)).toArray, .int .i64 x_9]) /\ KeptL [n] w' w'_1 /\ ∀ (n_2 : Nat) (W : World), Loc w.heap.size [Blk.mk n 66 [Value.int .u8 k, .int .u8 i, .int .u8 g, .int .u8 a, .int .i64 now, .string t] 0, Blk.mk n_2 42
 ([Value.int .i64 x] ++ arrI .u8 f 32 0 ++ ([Value.string x_3, .int .i64 x_4, .bool x_5, .slice p n_1 c, .string x_6, .int .i64 x_7, .int .i64 x_8] ++ arrI .u8 f_2 16 0)) (wrM 2)] w'_1 W -> J [Value.int .i64 x_9, .pointer (some (Addr.mk n_2 0 none))] W) /\ ∀ (x_3 : Int) (x_4 : Option Addr) (w' : World), J [Value.int .i64 x_3, .pointer x_4] w' -> Loc w.heap.size [Blk.mk n 66 [Value.int .u8 k, .int .u8 i, .int .u8 g, .int .u8 a, .int .i64 now, .string t] 0] w' w' -> ∃ (J : List Value -> World -> Prop), (nn true x_1 fun (b o : Nat) => ∃ (f : Nat -> Int), AtL w' b o (arrI .u8 f 32 0) /\ nn true x_2 fun (b o : Nat) => ∃ (f_1 : Nat -> Int), AtL w' b o (arrI .u8 f_1 16 0) /\ CallsS Tryz.prog 27 #[.pointer (some (Addr.mk m 0 none)), .agg (arrI .u8 f 32 0).toArray, .string x, .agg (arrI .u8 f_1 16 0).toArray, .int .i64 1, .string (ByteArray.mk #[]), .int .i64 now]
 w' fun (e : Ending) (w'_1 : World) => ∃ (x : Int), e = .returned (.int .i64 x) /\ KeptL [n] w' w'_1 /\ J [Value.int .i64 x] w'_1) /\ ∀ (x_5 : Int) (w' : World), J [Value.int .i64 x_5] w' -> Loc w.heap.size [Blk.mk n 66 [Value.int .u8 k, .int .u8 i, .int .u8 g, .int .u8 a, .int .i64 now, .string t] 0] w' w' -> ∀ (W : World), Loc w.heap.size [Blk.mk n 66 [Value.int .u8 k, .int .u8 i, .int .u8 g, .int .u8 a, .int .i64 now, .string t] 0] w' W -> ∃ (S : World -> Prop), S W /\ nn (x_3 == x_5) x_4 fun (b o : Nat) => ∃ (x_6 : Int) (f : Nat -> Int), ∃ (x_7 : ByteArray) (x_8 : Int), ∃ (x_9 : Bool) (p : Option Addr), ∃ (n_1 : Nat) (c : Nat), ∃ (x_10 : ByteArray) (x_11 : Int), ∃ (x_12 : Int) (f_1 : Nat -> Int), gimp (x_3 == x_5) (∀ (w' : World), S w' -> AtL w' b o ([Value.int .i64 x_6] ++ arrI .u8 f 32 0 ++ ([Value.string x_7, .int .i64 x_8,
 .bool x_9, .slice p n_1 c, .string x_10, .int .i64 x_11, .int .i64 x_12] ++ arrI .u8 f_1 16 0))) /\ nn (x_3 == x_5) x_1 fun (b o : Nat) => ∃ (f_2 : Nat -> Int), gimp (x_3 == x_5) (∀ (w' : World), S w' -> AtL w' b o (arrI .u8 f_2 32 0)) /\ bsp (x_3 == x_5) (CallsS Tryz.prog 23 #[.agg (arrI .u8 f_2 32 0).toArray, .string x, .int .i64 x_3] W fun (e : Ending) (w' : World) => ∃ (x : Int) (f_3 : Nat -> Int), ∃ (x_13 : ByteArray) (x_14 : Int), ∃ (x_15 : Bool) (p_1 : Option Addr), ∃ (n_2 : Nat) (c_1 : Nat), ∃ (x_16 : ByteArray) (x_17 : Int), ∃ (x_18 : Int) (f_4 : Nat -> Int), e = .returned (.agg ([Value.int .i64 x] ++ arrI .u8 f_3 32 0 ++ ([Value.string x_13, .int .i64 x_14, .bool x_15, .slice p_1 n_2 c_1, .string x_16, .int .i64 x_17, .int .i64 x_18] ++ arrI .u8 f_4 16 0)).toArray) /\ S w' /\ CallsS Tryz.prog 22 #[.agg
 ([Value.int .i64 x_6] ++ arrI .u8 f 32 0 ++ ([Value.string x_7, .int .i64 x_8, .bool x_9, .slice p n_1 c, .string x_10, .int .i64 x_11, .int .i64 x_12] ++ arrI .u8 f_1 16 0)).toArray, .agg ([Value.int .i64 x] ++ arrI .u8 f_3 32 0 ++ ([Value.string x_13, .int .i64 x_14, .bool x_15, .slice p_1 n_2 c_1, .string x_16, .int .i64 x_17, .int .i64 x_18] ++ arrI .u8 f_4 16 0)).toArray] w' fun (e : Ending) (w' : World) => ∃ (x : Bool), e = .returned (.bool x) /\ KeptL [n] W w' /\ R (.returned (.bool (true && x))) w') (S W /\ KeptL [n] W W /\ R (.returned (.bool false)) W)) (bsp (k.tmod 8 == 4) (∀ (W : World), Loc w.heap.size [Blk.mk n 66 [Value.int .u8 k, .int .u8 i, .int .u8 g, .int .u8 a, .int .i64 now, .string t] 0] w' W -> ∃ (S : World -> Prop), S W /\ nn true x_1 fun (b_1 o : Nat) => ∃ (f : Nat -> Int), (∀ (w' : World), S w' -> AtL w' b_1 o (arrI .u8 f 32 0)) /\
 nn true x_2 fun (b_2 o : Nat) => ∃ (f_1 : Nat -> Int), (∀ (w' : World), S w' -> AtL w' b_2 o (arrI .u8 f_1 16 0)) /\ ∃ (x_3 : Int), (∀ (w' : World), S w' -> w'.cell? (Addr.mk n (0 + 4) none) = some (.int .i64 x_3)) /\ nn true x_1 fun (b_3 o : Nat) => ∃ (f_2 : Nat -> Int), (∀ (w' : World), S w' -> AtL w' b_3 o (arrI .u8 f_2 32 0)) /\ nn true x_2 fun (b_4 o : Nat) => ∃ (f_3 : Nat -> Int), (∀ (w' : World), S w' -> AtL w' b_4 o (arrI .u8 f_3 16 0)) /\ ∃ (x_4 : Int), (∀ (w' : World), S w' -> w'.cell? (Addr.mk n (0 + 4) none) = some (.int .i64 x_4)) /\ CallsS Tryz.prog 24 #[.pointer (some (Addr.mk b 0 none)), .agg (arrI .u8 f 32 0).toArray, .string x, .agg (arrI .u8 f_1 16 0).toArray, .string (t.extract 0 (if 300 < (↑t.size : Int) then 300 else (↑t.size : Int)).toNat), .int .i64 x_3] W fun (e : Ending) (w' : World) => ∃ (x_5 : Int), e = .returned (.int .i64 x_5) /\ S w' /\
 CallsS Tryz.prog 27 #[.pointer (some (Addr.mk m 0 none)), .agg (arrI .u8 f_2 32 0).toArray, .string x, .agg (arrI .u8 f_3 16 0).toArray, .int .i64 2, .string (t.extract 0 (if 300 < (↑t.size : Int) then 300 else (↑t.size : Int)).toNat), .int .i64 x_4] w' fun (e : Ending) (w' : World) => ∃ (x : Int), e = .returned (.int .i64 x) /\ KeptL [n] W w' /\ R (.returned (.bool (x_5 == x))) w') (bsp (k.tmod 8 == 5) (∀ (W : World), Loc w.heap.size [Blk.mk n 66 [Value.int .u8 k, .int .u8 i, .int .u8 g, .int .u8 a, .int .i64 now, .string t] 0] w' W -> ∃ (S : World -> Prop), S W /\ ∃ (x : Int), (∀ (w' : World), S w' -> w'.cell? (Addr.mk n (0 + 4) none) = some (.int .i64 x)) /\ ∃ (x_3 : Int), (∀ (w' : World), S w' -> w'.cell? (Addr.mk n (0 + 4) none) = some (.int .i64 x_3)) /\ CallsS Tryz.prog 33 #[.pointer (some (Addr.mk b 0 none)), .int .i64 x] W fun (e : Ending) (w' : World) => ∃ (p : Option Addr),
 ∃ (n_1 : Nat) (c : Nat), e = .returned (.slice p n_1 c) /\ S w' /\ CallsS Tryz.prog 35 #[.pointer (some (Addr.mk m 0 none)), .int .i64 x_3] w' fun (e : Ending) (w' : World) => ∃ (p_1 : Option Addr) (n_2 : Nat) (c_1 : Nat), e = .returned (.slice p_1 n_2 c_1) /\ CallsS Tryz.prog 34 #[.slice p n_1 c, .slice p_1 n_2 c_1] w' fun (e : Ending) (w' : World) => ∃ (x : Bool), e = .returned (.bool x) /\ KeptL [n] W w' /\ R (.returned (.bool x)) w') (bsp (k.tmod 8 == 6) (∀ (W : World), Loc w.heap.size [Blk.mk n 66 [Value.int .u8 k, .int .u8 i, .int .u8 g, .int .u8 a, .int .i64 now, .string t] 0] w' W -> ∃ (S : World -> Prop), S W /\ ∃ (x : Int), (∀ (w' : World), S w' -> w'.cell? (Addr.mk n (0 + 4) none) = some (.int .i64 x)) /\ ∃ (x_3 : Int), (∀ (w' : World), S w' -> w'.cell? (Addr.mk n (0 + 4) none) = some (.int .i64 x_3)) /\
 CallsS Tryz.prog 44 #[.pointer (some (Addr.mk b 0 none)), .int .i64 x] W fun (e : Ending) (w' : World) => ∃ (x : Int), e = .returned (.int .i64 x) /\ S w' /\ CallsS Tryz.prog 64 #[.pointer (some (Addr.mk m 0 none)), .int .i64 x_3] w' fun (e : Ending) (w' : World) => ∃ (x_4 : Int), e = .returned (.int .i64 x_4) /\ KeptL [n] W w' /\ R (.returned (.bool (x == x_4))) w') (∃ (I : List Value -> World -> Prop) (m_1 : List Value -> World -> Nat), I [Value.int .i64 0, .slice none 0 0] w' /\ ∀ (x_3 : Int) (p : Option Addr) (n_1 c : Nat) (w' : World), I [Value.int .i64 x_3, .slice p n_1 c] w' -> Loc w.heap.size [Blk.mk n 66 [Value.int .u8 k, .int .u8 i, .int .u8 g, .int .u8 a, .int .i64 now, .string t] 0] w' w' -> bsp (decide (x_3 < (IntKind.i64.wrap a).tmod 12)) (∀ (n_2 : Nat) (W : World), Loc w.heap.size [Blk.mk n 66 [Value.int .u8 k, .int .u8 i, .int .u8 g,
 .int .u8 a, .int .i64 now, .string t] 0, Blk.mk n_2 45 [Value.int .u8 0, .int .u8 0, .int .u8 0, .int .u8 0, .int .u8 0, .int .u8 0, .int .u8 0, .int .u8 0, .int .u8 0, .int .u8 0, .int .u8 0, .int .u8 0, .int .u8 0, .int .u8 0, .int .u8 0, .int .u8 ((IntKind.u8.wrap (IntKind.i64.wrap (IntKind.i64.wrap (IntKind.i64.wrap i * x_3) + IntKind.i64.wrap a))).tmod 10)] 2] w' W -> ∃ (base : Nat) (xs : List Value), W.ownsRow base 45 16 (.slice p n_1 c) n_1 xs /\ n_1 + 1 <= 9223372036854775807 /\ (n_1 + 1) * 16 <= 140737488355328 /\ base <= W.heap.size /\ ∀ (p' : Option Addr) (c' : Nat) (w'_1 : World), w'_1.ownsRow base 45 16 (.slice p' (n_1 + 1) c') (n_1 + 1) (xs ++ [Value.int .u8 0, .int .u8 0, .int .u8 0, .int .u8 0, .int .u8 0, .int .u8 0, .int .u8 0, .int .u8 0, .int .u8 0, .int .u8 0, .int .u8 0, .int .u8 0, .int .u8 0, .int .u8 0, .int .u8 0, .int .u8 ((IntKind.u8.wrap
 (IntKind.i64.wrap (IntKind.i64.wrap (IntKind.i64.wrap i * x_3) + IntKind.i64.wrap a))).tmod 10)]) -> W.grownBy w'_1 (Value.slice p n_1 c).ownBlock -> AppL W p n_1 c 1 p' c' -> KeptL [n] W w'_1 /\ I [Value.int .i64 (IntKind.i64.wrap (x_3 + 1)), .slice p' (n_1 + 1) c'] w'_1 /\ m_1 [Value.int .i64 (IntKind.i64.wrap (x_3 + 1)), .slice p' (n_1 + 1) c'] w'_1 < m_1 [Value.int .i64 x_3, .slice p n_1 c] w') (CallsS Tryz.prog 38 #[.pointer (some (Addr.mk b 0 none)), .string x, .slice p n_1 c] w' fun (e : Ending) (w'_1 : World) => ∃ (x_4 : Int), e = .returned (.int .i64 x_4) /\ KeptL [n] w' w'_1 /\ CallsS Tryz.prog 25 #[.pointer (some (Addr.mk m 0 none)), .string x, .slice p n_1 c] w'_1 fun (e : Ending) (w' : World) => ∃ (x : Int), e = .returned (.int .i64 x) /\ KeptL [n] w'_1 w' /\ R (.returned (.bool (x_4 == x))) w'))))))))
theorem vc_ldo (b : Nat) (m : Nat) (k : Int) (i : Int) (g : Int) (a : Int) (now : Int) (t : ByteArray) (w : World) (R : Ending -> World -> Prop) (h : VC_ldo b m k i g a now t w R) : Calls Tryz.prog 31 ([Value.pointer (some { block := b, off := 0 }), .pointer (some { block := m, off := 0 }), .agg #[.int .u8 k, .int .u8 i, .int .u8 g, .int .u8 a, .int .i64 now, .string t]] : List Value).toArray w R :=
 calls_of_exec2' (loops := [(24, [(19, Ck.int .i64), (18, Ck.slice)])]) (tails := [(1, 2), (5, 6), (11, 6), (15, 8), (17, 7), (19, 3), (21, 3)]) (joins := [(2, [(8, Ck.str), (7, .ptr), (9, .ptr)]), (8, [(12, Ck.int .i64), (11, .ptr)]), (9, [(14, Ck.int .i64), (13, .ptr)]), (14, [(16, Ck.int .i64), (15, .ptr)]), (15, [(17, Ck.int .i64)])]) (boxes := []) (rngs := []) (c := Tryz.f31.body.getD .skip) pur1_ok Tryz.func31 (by kernel_rfl) (by kernel_rfl) h

end Go.Proofs.YtfacflbmlfbeeaaGreatDoor
