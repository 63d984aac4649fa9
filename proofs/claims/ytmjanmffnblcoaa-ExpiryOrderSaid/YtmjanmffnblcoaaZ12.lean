/- Chapter 42, the reference: the contracts of rule, Check, Days, less, older, find, Protected, total, goes, Wrong. No condition but sizes. -/
import Derived.Test.YtmjanmffnblcoaaZ09
import Derived.Test.YtmjanmffnblcoaaZ10
import Derived.Test.YtmjanmffnblcoaaZ11
import Derived.Test.YtmjanmffnblcoaaProg
import Derived.Test.YtmjanmffnblcoaaZ02
import Derived.Test.YtmjanmffnblcoaaZ08
import Derived.Test.YtmjanmffnblcoaaZ04
import Derived.KernelRfl
namespace Go.Proofs.Ytmjanmffnblcoaa
open Go.RowKit Go.Sort Go.Maps

theorem xrule_any (r : Rl) (w : World) : Calls Try.prog 35 #[.agg #[.string r.pat, .int .i64 r.lo, .int .i64 r.hi]] w fun e w' => e = .returned (.int .i64 (rl1 r)) ∧ K0 w w' := by
  refine vc_xrule r.pat r.lo r.hi w _ ?_
  intro n W hW
  have kW : K0 w W := hW.kk rfl
  refine ⟨(rcompile_any r.pat W).mono fun e w1 ⟨k1, he⟩ => ?_⟩
  cases hc : compileR r.pat with
  | inr oe =>
    obtain ⟨o', e'⟩ := oe
    rw [hc] at he
    have hne0 := (compileR_off _ _ _ hc).2
    have e1 : rl1 r = 3 := by unfold rl1; rw [hc]
    rw [e1]
    exact ⟨_, _, _, _, _, _, he, .of_k0 k1, fun n2 => bsp_intro (fun _ W2 hW2 => ⟨rfl, (kW.trans k1).trans (hW2.kk rfl)⟩) (fun h => by exfalso; simp at h; exact hne0 h)⟩
  | inl els =>
    rw [hc] at he
    obtain ⟨p, c, rs, he, _, _⟩ := he
    have e1 : rl1 r = if r.lo < 0 ∨ r.hi < r.lo ∨ 36500 < r.hi then 2 else 0 := by unfold rl1; rw [hc]
    refine ⟨_, _, _, _, _, _, he, .of_k0 k1, fun n2 => bsp_intro (fun h => by simp at h) (fun _ => ?_)⟩
    refine ⟨r.lo, gimp_intro fun _ W2 hW2 => cell_at (hW2.cells 1 rfl) rfl, r.hi, gimp_intro fun _ W2 hW2 => cell_at (hW2.cells 1 rfl) rfl, r.hi, gimp_intro fun _ W2 hW2 => cell_at (hW2.cells 1 rfl) rfl, bsp_intro (fun h W2 hW2 => ⟨?_, (kW.trans k1).trans (hW2.kk rfl)⟩) (fun h W2 hW2 => ⟨?_, (kW.trans k1).trans (hW2.kk rfl)⟩)⟩
    · rw [e1, if_pos]; simp at h; omega
    · rw [e1, if_neg]; simp at h; omega
theorem xcheck_any (L : List Rl) (p : Option Addr) (c : Nat) (w : World) (hR : RowA rlC 3 w p L) :
    Calls Try.prog 19 #[.slice p L.length c] w fun e w' => e = .returned (.int .i64 (chkR L)) ∧ K0 w w' := by
  refine vc_xcheck p L.length c w _ ?_
  refine bsp_intro (fun h => ?_) (fun h => ?_)
  · have h : 64 < L.length := by simp at h; omega
    exact ⟨by unfold chkR; rw [if_pos h], .refl _ _⟩
  have h : L.length ≤ 64 := by simp at h; omega
  have eC : chkR L = rlF L := by unfold chkR; rw [if_neg (by omega)]
  rw [eC]
  refine ⟨fun vs w' => ∃ i : Nat, vs = [.int .i64 (i : Int)] ∧ i ≤ L.length ∧ rlF (L.take i) = 0 ∧ K0 w w', fun vs _ => (match vs with | .int _ x :: _ => L.length - x.toNat | _ => 0), ⟨0, rfl, by omega, rfl, .refl _ _⟩, ?_⟩
  rintro x w1 ⟨i, hv, hi, hok, k1⟩
  simp only [List.cons.injEq, Value.int.injEq, true_and, and_true] at hv
  subst hv
  refine bsp_intro (fun hlt => ?_) (fun hge => ?_)
  · have hlt : i < L.length := by simp at hlt; omega
    obtain ⟨r, b, o, hr, rfl, hat⟩ := (hR.k0 k1).get hlt
    show (0 ≤ (i : Int) ∧ (i : Int) < (L.length : Int)) ∧ _
    rw [Int.toNat_natCast]
    refine ⟨by omega, r.pat, r.lo, r.hi, hat, ⟨(xrule_any r w1).mono fun e w2 ⟨he, k2⟩ => ⟨_, he, .of_k0 k2, bsp_intro (fun hne => ?_) (fun hne => ?_)⟩⟩⟩
    · have hne : rl1 r ≠ 0 := by simpa using hne
      exact ⟨by rw [rlF_hit hok hr hne], k1.trans k2⟩
    · have hne : rl1 r = 0 := by simpa using hne
      exact ⟨⟨i + 1, by rw [inc64 (by omega)], hlt, rlF_next hok hr hne, k1.trans k2⟩, by rw [inc64 (by omega)]; simp only [Int.toNat_natCast]; omega⟩
  · have hi : i = L.length := by simp at hge; omega
    rw [hi, List.take_length] at hok
    exact ⟨by rw [hok], k1⟩
theorem rl1_ok : ∀ {L : List Rl}, rlF L = 0 → ∀ r ∈ L, ∃ els, compileR r.pat = .inl els
  | [], _, r, h => by cases h
  | x :: L, h, r, hr => by
    have e : rlF (x :: L) = if rl1 x ≠ 0 then rl1 x else rlF L := rfl
    rw [e] at h
    split at h
    · rename_i h1; exact absurd h h1
    · rename_i h1
      have h1 : rl1 x = 0 := by omega
      rcases List.mem_cons.1 hr with he | he
      · subst he
        unfold rl1 at h1
        split at h1
        · cases h1
        · rename_i els hc; exact ⟨els, hc⟩
      · exact rl1_ok h r he
theorem chkR_rlF {L : List Rl} (h : chkR L = 0) : rlF L = 0 := by
  unfold chkR at h
  split at h
  · cases h
  · exact h
theorem xdays_any (L : List Rl) (p : Option Addr) (c : Nat) (gs : List ByteArray) (q : Option Addr) (d : Nat) (w : World) (hR : RowA rlC 3 w p L) (h0 : chkR L = 0) (hx : StrP w q gs) (hl : gs.length ≤ 1048576) (hz : ∀ z ∈ gs, z.size ≤ 140737488355328) :
    Calls Try.prog 20 #[.slice p L.length c, .slice q gs.length d] w fun e w' => e = .returned (.tuple #[.int .i64 (daysR L gs).1, .int .i64 (daysR L gs).2]) ∧ K0 w w' := by
  have hL := chkR_len h0
  have hcomp := rl1_ok (chkR_rlF h0)
  refine vc_xdays p L.length c q gs.length d w _ ?_
  refine bsp_intro (fun h => ?_) (fun h => ?_)
  · have h : gs = [] := by simpa using h
    exact ⟨by unfold daysR; rw [if_pos h], .refl _ _⟩
  have h : ¬ gs = [] := by simpa using h
  have eD : daysR L gs = daysF L gs (0, 0) := by unfold daysR; rw [if_neg h]
  rw [eD]
  refine ⟨fun vs w' => ∃ (i : Nat) (y : Int × Int), vs = [.int .i64 (i : Int), .int .i64 y.2, .int .i64 y.1] ∧ i ≤ gs.length ∧ daysF L (gs.drop i) y = daysF L gs (0, 0) ∧ K0 w w',
    fun vs _ => (match vs with | .int _ x1 :: _ => gs.length - x1.toNat | _ => 0), ⟨0, (0, 0), rfl, by omega, rfl, .refl _ _⟩, ?_⟩
  rintro x1 x2 x3 w1 ⟨i, y, hv, hi, hd, k1⟩
  simp only [List.cons.injEq, Value.int.injEq, true_and, and_true] at hv
  obtain ⟨rfl, rfl, rfl⟩ := hv
  refine bsp_intro (fun hlt => ?_) (fun hge => ?_)
  · have hlt : i < gs.length := by simp at hlt; omega
    obtain ⟨z, b, o, hzi, hgp, hc⟩ := (hx.k0 k1).get hlt
    have hzs := hz z (List.mem_of_getElem? hzi)
    refine ⟨fun vs w' => ∃ (a : Nat) (u : Int × Int), vs = [.int .i64 (a : Int), .int .i64 u.2, .int .i64 u.1] ∧ a ≤ L.length ∧ ofR (L.take a) z = u ∧ K0 w1 w',
      fun vs _ => (match vs with | .int _ x1 :: _ => L.length - x1.toNat | _ => 0), ⟨0, (0, 36500), rfl, by omega, rfl, .refl _ _⟩, ?_⟩
    rintro a1 a2 a3 w2 ⟨a, u, hv, ha, hu, k2⟩
    simp only [List.cons.injEq, Value.int.injEq, true_and, and_true] at hv
    obtain ⟨rfl, rfl, rfl⟩ := hv
    refine bsp_intro (fun hlt2 => ?_) (fun hge2 => ?_)
    · have hlt2 : a < L.length := by simp at hlt2; omega
      obtain ⟨r, b2, o2, hr, hp, hat⟩ := (hR.k0 (k1.trans k2)).get hlt2
      refine nn_eq hp ⟨by omega, ?_⟩
      rw [Int.toNat_natCast]
      refine ⟨r.pat, by simpa using hat.cell (j := 0) rfl, ⟨(rcompile_any r.pat w2).mono fun e w3 ⟨k3, he⟩ => ?_⟩⟩
      obtain ⟨els, hcr⟩ := hcomp r (List.mem_of_getElem? hr)
      rw [hcr] at he
      obtain ⟨pp, cc, rs, he, hown, hrel⟩ := he
      have hlen : rs.length ≤ 1048576 := by
        have h1 := hrel.len
        have h2 := compileR_len hcr
        omega
      refine ⟨_, _, _, _, _, _, he, .of_k0 k3, fun n2 => nn_eq hgp ⟨by omega, z, fun W hW => ?_, fun W hW => ?_⟩⟩
      · rw [Int.toNat_natCast]
        exact ((k2.trans k3).trans (hW.kk rfl)).cell' hc (fun h => h)
      have kW : K0 w3 W := hW.kk rfl
      refine ⟨(rmatch_any r.pat pp cc rs z W (owns_kp hown kW (fun _ _ h => h)) hzs hlen).mono fun e w4 ⟨he, k4⟩ => ⟨_, he, .of_k0 k4, ?_⟩⟩
      have k24 : K0 w2 w4 := (k3.trans kW).trans k4
      have hhit : hitR r z = rmatchB rs z := by
        unfold hitR elsOf
        rw [hcr]
        exact rel_match hrel z
      have htk : ofR (L.take (a + 1)) z = if hitR r z = true then (r.lo, r.hi) else u := by rw [take_snoc hr, ofR_snoc, hu]
      refine bsp_intro (fun hm => ?_) (fun hm => ?_)
      · rw [hhit, if_pos hm] at htk
        refine nn_eq hp ⟨by omega, r.lo, fun W5 hW5 => ?_, nn_eq hp ⟨by omega, r.hi, fun W5 hW5 => ?_, fun W5 hW5 => ?_⟩⟩
        · exact (k24.trans (hW5.kk rfl)).cell' (hat.cell (j := 1) rfl) (fun h => h)
        · exact (k24.trans (hW5.kk rfl)).cell' (hat.cell (j := 2) rfl) (fun h => h)
        · exact ⟨⟨a + 1, (r.lo, r.hi), by rw [inc64 (by omega)], hlt2, htk, (k2.trans k24).trans (hW5.kk rfl)⟩, by rw [inc64 (by omega)]; simp only [Int.toNat_natCast]; omega⟩
      · rw [hhit, if_neg (by simp [hm])] at htk
        exact ⟨⟨a + 1, u, by rw [inc64 (by omega)], hlt2, htk, k2.trans k24⟩, by rw [inc64 (by omega)]; simp only [Int.toNat_natCast]; omega⟩
    · have ha : a = L.length := by simp at hge2; omega
      rw [ha, List.take_length] at hu
      refine ⟨⟨i + 1, (max y.1 (ofR L z).1, max y.2 (ofR L z).2), ?_, hlt, ?_, k1.trans k2⟩, by rw [inc64 (by omega)]; simp only [Int.toNat_natCast]; omega⟩
      · rw [inc64 (by omega), hu]
        congr 2
        · simp only [Value.int.injEq, true_and]; split <;> omega
        · simp only [List.cons.injEq, Value.int.injEq, true_and, and_true]; split <;> omega
      · rw [← hd]
        have : gs.drop i = z :: gs.drop (i + 1) := by
          rw [List.drop_eq_getElem_cons hlt]
          rw [List.getElem?_eq_getElem hlt] at hzi
          simp at hzi
          rw [hzi]
        rw [this, daysF_cons]
  · have hi : i = gs.length := by simp at hge; omega
    rw [hi, List.drop_length] at hd
    exact ⟨by rw [← hd]; rfl, k1⟩
theorem xless_any (f g : Nat → Int) (w : World) : Calls Try.prog 67 #[.agg (arrI .u8 f 32 0).toArray, .agg (arrI .u8 g 32 0).toArray] w fun e w' => e = .returned (.bool (decide (cmpIs (idI f) (idI g) < 0))) ∧ K0 w w' := by
  refine vc_xless f g w _ ?_
  intro n n1 W hW
  have kW : K0 w W := hW.kk rfl
  have hg := hW.cells 0 rfl
  have hf := hW.cells 1 rfl
  refine ⟨fun vs w' => ∃ i : Nat, vs = [.int .i64 (i : Int)] ∧ i ≤ 32 ∧ (∀ j, j < i → f j = g j) ∧ K0 W w', fun vs _ => (match vs with | .int _ x :: _ => 32 - x.toNat | _ => 0), ⟨0, rfl, by omega, (fun j h => by omega), .refl _ _⟩, ?_⟩
  rintro x w1 ⟨i, hv, hi, heq, k1⟩
  simp only [List.cons.injEq, Value.int.injEq, true_and, and_true] at hv
  subst hv
  refine bsp_intro (fun hlt => ?_) (fun hge => ?_)
  · have hlt : i < 32 := by simp at hlt; omega
    intro W2 hW2
    rw [Int.toNat_natCast]
    have k2 : K0 W W2 := k1.trans (hW2.kk rfl)
    have af : ∀ {wx : World}, K0 W wx → wx.cell? ⟨n, 0 + i, none⟩ = some (.int .u8 (f i)) := fun hk => (AtL_block (hk.blk hf (fun h => h)) rfl : AtL _ n 0 (idL f)).cell (by rw [arrI_get .u8 f 32 0 i hlt, Nat.zero_add])
    have ag : ∀ {wx : World}, K0 W wx → wx.cell? ⟨n1, 0 + i, none⟩ = some (.int .u8 (g i)) := fun hk => (AtL_block (hk.blk hg (fun h => h)) rfl : AtL _ n1 0 (idL g)).cell (by rw [arrI_get .u8 g 32 0 i hlt, Nat.zero_add])
    refine ⟨by omega, f i, af k2, by omega, g i, ag k2, bsp_intro (fun hne W3 hW3 => ?_) (fun hne => ?_)⟩
    · have hne : f i ≠ g i := by simpa using hne
      have k3 : K0 W W3 := k2.trans (hW3.kk rfl)
      refine ⟨by omega, f i, af k3, by omega, g i, ag k3, ?_, kW.trans k3⟩
      rw [cmpIs_id hlt heq hne]
      congr 2
      unfold cI
      rw [decide_eq_decide]
      by_cases h : f i < g i
      · simp [h]
      · have : g i < f i := by omega
        simp [h, this]
    · have he : f i = g i := by simpa using hne
      refine ⟨⟨i + 1, by rw [inc64 (by omega)], hlt, fun j hj => ?_, k2⟩, by rw [inc64 (by omega)]; simp only [Int.toNat_natCast]; omega⟩
      rcases Nat.lt_or_ge j i with h | h
      · exact heq j h
      · have : j = i := by omega
        subst this
        exact he
  · have hi : i = 32 := by simp at hge; omega
    subst hi
    exact ⟨by rw [cmpIs_same heq]; rfl, kW.trans k1⟩
theorem cfJ_lt (x y : Int × List Int) : decide (cfJ x y < 0) = (decide (x.1 < y.1) || (x.1 == y.1) && decide (cmpIs x.2 y.2 < 0)) := by
  unfold cfJ
  by_cases h1 : x.1 < y.1
  · simp [h1]
  · by_cases h2 : y.1 < x.1
    · have : ¬ x.1 = y.1 := by omega
      simp [h1, h2, this]
    · have e1 : x.1 = y.1 := by omega
      simp [e1]
theorem xolder_any (x y : AX) (w : World) : Calls Try.prog 42 #[.agg (axC x).toArray, .agg (axC y).toArray] w fun e w' => e = .returned (.bool (decide (cfJ (x.ar, idI x.id) (y.ar, idI y.id) < 0))) ∧ K0 w w' := by
  refine vc_xolder x.id x.dt x.ar x.gp x.gs.length x.gc x.by_ x.ct x.hp x.hs.length x.hc x.wd y.id y.dt y.ar y.gp y.gs.length y.gc y.by_ y.ct y.hp y.hs.length y.hc y.wd w _ ?_
  intro n n1
  rw [cfJ_lt]
  refine ⟨x.ar, gimp_intro fun _ W hW => cell_at (hW.cells 1 rfl) rfl, y.ar, gimp_intro fun _ W hW => cell_at (hW.cells 0 rfl) rfl, x.id, gimp_intro fun _ W hW => AtL_block (hW.cells 1 rfl) rfl, y.id, gimp_intro fun _ W hW => AtL_block (hW.cells 0 rfl) rfl, fun W hW => ?_⟩
  have kW : K0 w W := hW.kk rfl
  refine bsp_intro (fun h1 => bsp_intro (fun h2 => ?_) (fun h2 => ?_)) (fun h1 => ?_)
  · have h1 : decide (x.ar < y.ar) = false := by simpa using h1
    refine ⟨(xless_any x.id y.id W).mono fun e w1 ⟨he, k1⟩ => ⟨_, he, .of_k0 k1, ?_, kW.trans k1⟩⟩
    simp only [h1, h2, Bool.false_or, Bool.true_and]
  · have h1 : decide (x.ar < y.ar) = false := by simpa using h1
    refine ⟨.refl _ _, ?_, kW⟩
    simp only [h1, h2, Bool.false_or, Bool.false_and]
  · have h1 : decide (x.ar < y.ar) = true := by simpa using h1
    refine ⟨.refl _ _, ?_, kW⟩
    simp only [h1, Bool.true_or]
theorem idEq3 {l l' : List Int} (hl : l.length = 32) (hb : ∀ x ∈ l, 0 ≤ x ∧ x ≤ 255) (hl' : l'.length = 32) (hb' : ∀ x ∈ l', 0 ≤ x ∧ x ≤ 255) : EqP Try.prog 37 (byA l) (byA l') (decide (l = l')) :=
  eq_bytes Try.underlying37 Try.underlying5 (by kernel_rfl) (by kernel_rfl) (by kernel_rfl) (by decide +kernel) (by kernel_rfl) (by kernel_rfl) hl hb hl' hb'
theorem AtL.pre {w : World} {b o : Nat} {l1 l2 : List Value} (h : AtL w b o (l1 ++ l2)) : AtL w b o l1 := h.left
theorem xfind_any (l : List AX) (p : Option Addr) (c : Nat) (f : Nat → Int) (w : World) (hR : RowA axC 39 w p l) (hl : l.length ≤ 1048576) (hb : ∀ x ∈ l, ∀ j, 0 ≤ x.id j ∧ x.id j ≤ 255) (hf : ∀ j, 0 ≤ f j ∧ f j ≤ 255) :
    Calls Try.prog 46 #[.slice p l.length c, .agg (arrI .u8 f 32 0).toArray] w fun e w' => e = .returned (.int .i64 (fiR (fun y : AX => decide (idI y.id = idI f)) l)) ∧ K0 w w' := by
  refine vc_xfind p l.length c f w _ ?_
  intro n1 W hW
  have kW : K0 w W := hW.kk rfl
  refine ⟨fun vs w' => ∃ i : Nat, vs = [.int .i64 (i : Int)] ∧ i ≤ l.length ∧ (∀ j z, j < i → l[j]? = some z → (fun y : AX => decide (idI y.id = idI f)) z = false) ∧ K0 w w',
    fun vs _ => (match vs with | .int _ x :: _ => l.length - x.toNat | _ => 0), ⟨0, rfl, by omega, (fun j z h => by omega), kW⟩, ?_⟩
  rintro x w1 ⟨i, hv, hi, hno, k1⟩ hL1
  simp only [List.cons.injEq, Value.int.injEq, true_and, and_true] at hv
  subst hv
  refine bsp_intro (fun hlt => ?_) (fun hge => ?_)
  · have hlt : i < l.length := by simp at hlt; omega
    obtain ⟨y, b, o, hy, rfl, hat⟩ := (hR.k0 k1).get hlt
    show (0 ≤ (i : Int) ∧ (i : Int) < (l.length : Int)) ∧ _
    rw [Int.toNat_natCast]
    refine ⟨by omega, y.id, fun W2 hW2 => (hat.k0 (hW2.kk rfl)).pre, decide (idI y.id = idI f), idEq3 (idI_len _) (idI_bd (hb y (List.mem_of_getElem? hy))) (idI_len _) (idI_bd hf), bsp_intro (fun hg W2 hW2 => ?_) (fun hg W2 hW2 => ?_)⟩
    · exact ⟨by unfold fiR; rw [fidx_hit hno hy hg], k1.trans (hW2.kk rfl)⟩
    · refine ⟨⟨i + 1, by rw [inc64 (by omega)], hlt, fun j z hj hz => ?_, k1.trans (hW2.kk rfl)⟩, by rw [inc64 (by omega)]; simp only [Int.toNat_natCast]; omega⟩
      rcases Nat.lt_or_ge j i with h | h
      · exact hno j z h hz
      · have : j = i := by omega
        subst this
        rw [hy] at hz
        simp at hz
        subst hz
        exact hg
  · have hi : i = l.length := by simp at hge; omega
    subst hi
    exact ⟨by unfold fiR; rw [fidx_miss hno], k1⟩

end Go.Proofs.Ytmjanmffnblcoaa

/- Chapter 42, the reference: the contracts of Protected, total, goes, Wrong. No condition but sizes. -/
namespace Go.Proofs.Ytmjanmffnblcoaa
open Go.RowKit Go.Sort Go.Maps

theorem fixB_eq (now : Int) (y : AX) : fixB now y.pl = (permC y.ct || ((y.ct != 0 || decide ((y.hs.length : Int) > 0)) && decide (now ≤ y.dt + 20160))) := by
  unfold fixB
  have e : (!(y.pl.holds).isEmpty) = decide ((y.hs.length : Int) > 0) := by
    show (!((y.hs.map idI).isEmpty)) = _
    cases y.hs <;> simp
  rw [e]
  rfl
theorem RowA.take {α : Type} {f : α → List Value} {L : Nat} {w : World} {p : Option Addr} {l : List α} (h : RowA f L w p l) (m : Nat) : RowA f L w p (l.take m) := fun k y hy => by
  rw [List.getElem?_take] at hy
  split at hy
  · exact h k y hy
  · cases hy
theorem fiR_here (l : List AX) (f : Nat → Int) : decide (fiR (fun y : AX => decide (idI y.id = idI f)) l ≥ 0) = hereB (l.map AX.pl) (idI f) := by
  rw [fiR_any]
  unfold hereB
  rw [List.any_map]
  rfl
theorem xprot_any (l : List AX) (p : Option Addr) (c : Nat) (x : AX) (now : Int) (w : World) (hR : RowA axC 39 w p l) (hl : l.length ≤ 1048576) (hb : ∀ y ∈ l, ∀ j, 0 ≤ y.id j ∧ y.id j ≤ 255) (hx : AXR w x) (hok : ArOK x) :
    Calls Try.prog 27 #[.slice p l.length c, .agg (axC x).toArray, .int .i64 now] w fun e w' => e = .returned (.bool (protB now (l.map AX.pl) x.pl)) ∧ K0 w w' := by
  refine vc_xprot p l.length c x.id x.dt x.ar x.gp x.gs.length x.gc x.by_ x.ct x.hp x.hs.length x.hc x.wd now w _ ?_
  intro n1
  have hf := fixB_eq now x
  have hdt := hok.dt
  have hP : protB now (l.map AX.pl) x.pl = (fixB now x.pl || x.hs.any fun h => hereB (l.map AX.pl) (idI h)) := by
    unfold protB
    congr 1
    show (x.hs.map idI).any _ = _
    rw [List.any_map]; rfl
  refine bsp_intro (fun h1 W hW => ⟨?_, hW.kk rfl⟩) (fun h1 => ?_)
  · rw [hP, hf, h1, Bool.true_or, Bool.true_or]
  refine ⟨x.hp, x.hs.length, x.hc, gimp_intro fun _ W hW => cell_at (hW.cells 0 rfl) rfl, x.dt, gimp_intro fun _ W hW => cell_at (hW.cells 0 rfl) rfl, ?_⟩
  rw [wr64 (x := x.dt + 20160) (by omega) (by omega)]
  refine bsp_intro (fun h2 W hW => ⟨?_, hW.kk rfl⟩) (fun h2 W hW => ?_)
  · rw [hP, hf, h2, Bool.or_true, Bool.true_or]
  have hfF : fixB now x.pl = false := by rw [hf, h1, h2]; rfl
  rw [hfF, Bool.false_or] at hP
  have kW : K0 w W := hW.kk rfl
  refine ⟨fun vs w' => ∃ i : Nat, vs = [.int .i64 (i : Int)] ∧ i ≤ x.hs.length ∧ (∀ j h, j < i → x.hs[j]? = some h → hereB (l.map AX.pl) (idI h) = false) ∧ K0 w w',
    fun vs _ => (match vs with | .int _ a :: _ => x.hs.length - a.toNat | _ => 0), ⟨0, rfl, by omega, (fun j z h => by omega), kW⟩, ?_⟩
  rintro a w1 ⟨i, hv, hi, hno, k1⟩ hL1
  simp only [List.cons.injEq, Value.int.injEq, true_and, and_true] at hv
  subst hv
  refine bsp_intro (fun hlt => ?_) (fun hge => ?_)
  · have hlt : i < x.hs.length := by simp at hlt; omega
    obtain ⟨h, b, o, hy, hhp, hat⟩ := (hx.hs.k0 k1).get hlt
    have hhl := List.mem_of_getElem? hy
    refine nn_eq hhp ⟨by omega, h, by rw [Int.toNat_natCast]; exact hat, ⟨(xfind_any l p c h w1 (hR.k0 k1) hl hb (hok.hs h hhl)).mono fun e w2 ⟨he, k2⟩ => ⟨_, he, .of_k0 k2, ?_⟩⟩⟩
    rw [fiR_here]
    refine bsp_intro (fun hh => ⟨?_, k1.trans k2⟩) (fun hh => ?_)
    · rw [hP]
      congr 2
      exact (List.any_eq_true.2 ⟨h, hhl, hh⟩).symm
    · refine ⟨⟨i + 1, by rw [inc64 (by have := hok.hl; omega)], hlt, fun j z hj hz => ?_, k1.trans k2⟩, by rw [inc64 (by have := hok.hl; omega)]; simp only [Int.toNat_natCast]; omega⟩
      rcases Nat.lt_or_ge j i with h' | h'
      · exact hno j z h' hz
      · have : j = i := by omega
        subst this
        rw [hy] at hz
        simp at hz
        subst hz
        exact hh
  · have hi : i = x.hs.length := by simp at hge; omega
    subst hi
    refine ⟨?_, k1⟩
    rw [hP]
    congr 2
    refine (List.any_eq_false.2 fun h hh => ?_).symm
    obtain ⟨j, hj, e⟩ := List.getElem_of_mem hh
    rw [hno j h hj (by rw [List.getElem?_eq_getElem hj, e])]
    decide
theorem xtotal_any (l : List AX) (p : Option Addr) (c : Nat) (w : World) (hR : RowA axC 39 w p l) (hl : l.length ≤ 1000) (hb : ∀ y ∈ l, 0 ≤ y.by_ ∧ y.by_ ≤ 1099511627776) :
    Calls Try.prog 40 #[.slice p l.length c] w fun e w' => e = .returned (.int .i64 (sumB l)) ∧ K0 w w' := by
  refine vc_xtotal p l.length c w _ ?_
  refine ⟨fun vs w' => ∃ i : Nat, vs = [.int .i64 (i : Int), .int .i64 (sumB (l.take i))] ∧ i ≤ l.length ∧ K0 w w',
    fun vs _ => (match vs with | .int _ a :: _ => l.length - a.toNat | _ => 0), ⟨0, rfl, by omega, .refl _ _⟩, ?_⟩
  rintro a s w1 ⟨i, hv, hi, k1⟩
  simp only [List.cons.injEq, Value.int.injEq, true_and, and_true] at hv
  obtain ⟨rfl, rfl⟩ := hv
  refine bsp_intro (fun hlt => ?_) (fun hge => ?_)
  · have hlt : i < l.length := by simp at hlt; omega
    obtain ⟨y, b, o, hy, hp, hat⟩ := (hR.k0 k1).get hlt
    have h1 := sumB_bd (l.take i) (fun x hx => hb x (List.mem_of_mem_take hx))
    have h2 := hb y (List.mem_of_getElem? hy)
    rw [List.length_take] at h1
    refine nn_eq hp ⟨by omega, y.by_, by rw [Int.toNat_natCast]; exact hat.cell (j := 35) rfl, ⟨i + 1, ?_, hlt, k1⟩, by rw [inc64 (by omega)]; simp only [Int.toNat_natCast]; omega⟩
    rw [inc64 (by omega), take_snoc hy, sumB_snoc, wr64 (by omega) (by omega)]
  · have hi : i = l.length := by simp at hge; omega
    rw [hi, List.take_length]
    exact ⟨rfl, k1⟩
/-- Whether an article goes in a step of the reference (the budget aside). -/
def goR (L : List Rl) (now : Int) (here : List Ar) (k : Nat) (a : Ar) : Bool := !protB now here a && (match k with | 1 => a.wd && a.ct == 0 | 2 => overB L now a | _ => mayB L now a)
theorem xgoes_any (L : List Rl) (p : Option Addr) (c : Nat) (l : List AX) (q : Option Addr) (d : Nat) (x : AX) (now : Int) (k : Nat) (w : World) (hR : RowA rlC 3 w p L) (h0 : chkR L = 0) (hA : RowA axC 39 w q l) (hl : l.length ≤ 1048576) (hb : ∀ y ∈ l, ∀ j, 0 ≤ y.id j ∧ y.id j ≤ 255)
    (hx : AXR w x) (hok : ArOK x) (hz : ∀ z ∈ x.gs, z.size ≤ 140737488355328) (hk : k = 1 ∨ k = 2 ∨ k = 3) :
    Calls Try.prog 41 #[.slice p L.length c, .slice q l.length d, .agg (axC x).toArray, .int .i64 now, .int .i64 (k : Int)] w fun e w' => e = .returned (.bool (goR L now (l.map AX.pl) k x.pl)) ∧ K0 w w' := by
  refine vc_xgoes p L.length c q l.length d x.id x.dt x.ar x.gp x.gs.length x.gc x.by_ x.ct x.hp x.hs.length x.hc x.wd now (k : Int) w _ ?_
  intro n1 W hW
  have kW : K0 w W := hW.kk rfl
  refine ⟨(xprot_any l q d x now W (hA.k0 kW) hl hb (hx.k0 kW) hok).mono fun e w1 ⟨he, k1⟩ => ⟨_, he, .of_k0 k1, bsp_intro (fun hp => ⟨?_, kW.trans k1⟩) (fun hp => ?_)⟩⟩
  · unfold goR
    rw [hp]; rfl
  have hn1 := k1.blk (hW.cells 0 rfl) (fun h => h)
  refine ⟨(xdays_any L p c x.gs x.gp x.gc w1 (hR.k0 (kW.trans k1)) h0 (hx.gs.k0 (kW.trans k1)) hok.gl hz).mono fun e w2 ⟨he, k2⟩ => ⟨_, _, he, .of_k0 k2, ?_⟩⟩
  have kw2 := (kW.trans k1).trans k2
  have hd := daysR_bd (rlF_all (chkR_rlF h0)) x.gs
  have har := hok.ar
  refine bsp_intro (fun h1 => ?_) (fun h1 => bsp_intro (fun h2 => ?_) (fun h2 => ?_))
  · have h1 : k = 1 := by simp at h1; omega
    subst h1
    refine ⟨x.ct, gimp_intro fun _ => cell_at (k2.blk hn1 (fun h => h)) rfl, ?_, kw2⟩
    unfold goR
    rw [hp]; rfl
  · have h2 : k = 2 := by simp at h2; omega
    subst h2
    refine ⟨?_, kw2⟩
    rw [wr64 (x := (daysR L x.gs).2 * 1440) (by omega) (by omega), wr64 (by omega) (by omega)]
    unfold goR
    rw [hp]; rfl
  · have h3 : k = 3 := by simp at h1 h2; omega
    subst h3
    refine ⟨?_, kw2⟩
    rw [wr64 (x := (daysR L x.gs).1 * 1440) (by omega) (by omega), wr64 (by omega) (by omega)]
    unfold goR
    rw [hp]; rfl
theorem goR_goB {L : List Rl} {now budget : Int} {here : List Ar} {k : Nat} (hk : k = 1 ∨ k = 2 ∨ k = 3) (a : Ar) : goB L now budget here k a = ((decide (k < 3) || decide (totS here > budget)) && goR L now here k a) := by
  unfold goB goR reasB
  rcases hk with rfl | rfl | rfl
  · simp [Bool.and_comm]
  · simp [Bool.and_comm]
  · simp only [Nat.lt_irrefl, decide_false, Bool.false_or]
    cases decide (budget < totS here) <;> simp [Bool.and_comm]
theorem arBad_ref (a : Ar) : (decide (a.date < 0) || decide (a.date > 105190559) || decide (a.ar < 0) || decide (a.ar > 105190559) || decide (a.by_ < 0) || decide (a.by_ > 1099511627776) || decide (a.ct < 0) || decide (a.ct > 5)) = arBad a := by
  unfold arBad minB
  rw [Bool.eq_iff_iff]
  simp
  omega
set_option maxHeartbeats 1000000 in
theorem xwrong_any (L : List Rl) (p : Option Addr) (c : Nat) (l : List AX) (q : Option Addr) (d : Nat) (now budget : Int) (w : World) (hR : RowA rlC 3 w p L) (hA : RowA axC 39 w q l) (hl : l.length ≤ 1000) (hld : l.length ≤ d) (hb : ∀ y ∈ l, ∀ j, 0 ≤ y.id j ∧ y.id j ≤ 255) :
    Calls Try.prog 39 #[.slice p L.length c, .slice q l.length d, .int .i64 now, .int .i64 budget] w fun e w' => e = .returned (.int .i64 (planErr L (l.map AX.pl) now budget)) ∧ K0 w w' := by
  refine vc_xwrong p L.length c q l.length d now budget w _ ?_
  refine ⟨(xcheck_any L p c w hR).mono fun e w1 ⟨he, k1⟩ => ⟨_, he, .of_k0 k1, bsp_intro (fun h0 => ?_) (fun h0 => ?_)⟩⟩
  · have h0 : chkR L ≠ 0 := by simpa using h0
    exact ⟨by unfold planErr; rw [if_pos h0], k1⟩
  have h0 : chkR L = 0 := by simpa using h0
  have eN : (decide (now < 0) || decide (now > 105190559) || decide (budget < 0)) = (!minB now || decide (budget < 0)) := by
    unfold minB
    rw [Bool.eq_iff_iff]
    simp
  rw [eN]
  refine bsp_intro (fun h1 => ?_) (fun h1 => ?_)
  · exact ⟨by unfold planErr; rw [if_neg (by simpa using h0), if_pos h1], k1⟩
  have eP : planErr L (l.map AX.pl) now budget = errA [] (l.map AX.pl) := by unfold planErr; rw [if_neg (by simpa using h0), if_neg (by simpa using h1)]
  rw [eP]
  refine ⟨fun vs w' => ∃ i : Nat, vs = [.int .i64 (i : Int)] ∧ i ≤ l.length ∧ errA ((l.take i).map fun y => idI y.id) ((l.drop i).map AX.pl) = errA [] (l.map AX.pl) ∧ K0 w w',
    fun vs _ => (match vs with | .int _ x :: _ => l.length - x.toNat | _ => 0), ⟨0, rfl, by omega, rfl, k1⟩, ?_⟩
  rintro x w2 ⟨i, hv, hi, he, k2⟩
  simp only [List.cons.injEq, Value.int.injEq, true_and, and_true] at hv
  subst hv
  refine bsp_intro (fun hlt => ?_) (fun hge => ?_)
  · have hlt : i < l.length := by simp at hlt; omega
    obtain ⟨y, b, o, hy, hq, hat⟩ := (hA.k0 k2).get hlt
    have hyl := List.mem_of_getElem? hy
    have hdr : l.drop i = y :: l.drop (i + 1) := by
      rw [List.drop_eq_getElem_cons hlt]
      rw [List.getElem?_eq_getElem hlt] at hy
      simp at hy
      rw [hy]
    rw [hdr, List.map_cons] at he
    have he' : ∀ seen, errA seen (y.pl :: (l.drop (i + 1)).map AX.pl) = if arBad y.pl = true then 2 else if y.pl.id ∈ seen then 7 else errA (seen ++ [y.pl.id]) ((l.drop (i + 1)).map AX.pl) := fun _ => rfl
    rw [he'] at he
    refine nn_eq hq ⟨by omega, y.id, y.dt, y.ar, y.gp, y.gs.length, y.gc, y.by_, y.ct, y.hp, y.hs.length, y.hc, y.wd, by rw [Int.toNat_natCast]; exact hat, fun n2 => ?_⟩
    refine ⟨y.dt, gimp_intro fun _ W hW => cell_at (hW.cells 0 rfl) rfl, y.ar, gimp_intro fun _ W hW => cell_at (hW.cells 0 rfl) rfl, y.ar, gimp_intro fun _ W hW => cell_at (hW.cells 0 rfl) rfl, y.by_, gimp_intro fun _ W hW => cell_at (hW.cells 0 rfl) rfl, y.by_, gimp_intro fun _ W hW => cell_at (hW.cells 0 rfl) rfl, y.ct, gimp_intro fun _ W hW => cell_at (hW.cells 0 rfl) rfl, y.ct, gimp_intro fun _ W hW => cell_at (hW.cells 0 rfl) rfl, ?_⟩
    have hbr := arBad_ref y.pl
    refine bsp_intro (fun hbad W hW => ?_) (fun hgood => ⟨by omega, fun W hW => ?_⟩)
    · have hbad : arBad y.pl = true := by rw [← hbr]; exact hbad
      rw [if_pos hbad] at he
      exact ⟨by rw [← he], k2.trans (hW.kk rfl)⟩
    · have hgood : arBad y.pl = false := by rw [← hbr]; exact hgood
      rw [if_neg (by simp [hgood])] at he
      have kW : K0 w2 W := hW.kk rfl
      have hlen : (l.take i).length = i := by rw [List.length_take]; omega
      rw [Int.toNat_natCast]
      have hfind := xfind_any (l.take i) q d y.id W ((hA.k0 (k2.trans kW)).take i) (by omega) (fun z hz => hb z (List.mem_of_mem_take hz)) (hb y hyl)
      rw [hlen] at hfind
      refine ⟨hfind.mono fun e w3 ⟨hr, k3⟩ => ⟨_, hr, .of_k0 k3, ?_⟩⟩
      rw [fiR_here]
      have hmem : hereB ((l.take i).map AX.pl) (idI y.id) = decide (y.pl.id ∈ (l.take i).map fun z => idI z.id) := by
        unfold hereB
        rw [Bool.eq_iff_iff, List.any_eq_true, decide_eq_true_iff]
        constructor
        · rintro ⟨a, ha, he⟩
          obtain ⟨z, hz, rfl⟩ := List.mem_map.1 ha
          exact List.mem_map.2 ⟨z, hz, of_decide_eq_true he⟩
        · intro h
          obtain ⟨z, hz, he⟩ := List.mem_map.1 h
          exact ⟨z.pl, List.mem_map.2 ⟨z, hz, rfl⟩, decide_eq_true he⟩
      rw [hmem]
      refine bsp_intro (fun hin => ?_) (fun hin => ?_)
      · rw [if_pos (of_decide_eq_true hin)] at he
        exact ⟨by rw [← he], (k2.trans kW).trans k3⟩
      · rw [if_neg (of_decide_eq_false hin)] at he
        refine ⟨⟨i + 1, by rw [inc64 (by omega)], hlt, ?_, (k2.trans kW).trans k3⟩, by rw [inc64 (by omega)]; simp only [Int.toNat_natCast]; omega⟩
        rw [take_snoc hy, List.map_append]
        exact he
  · have hi : i = l.length := by simp at hge; omega
    rw [hi, List.drop_length] at he
    exact ⟨by rw [← he]; rfl, k2⟩

end Go.Proofs.Ytmjanmffnblcoaa

/- Chapter 42, the reference: the contract of Plan. No condition but sizes. -/
namespace Go.Proofs.Ytmjanmffnblcoaa
open Go.RowKit Go.Sort Go.Maps

theorem erase_wo {α : Type} (f : α → Ar) : ∀ {l : List α} {i : Nat} {y : α}, (l.map fun x => (f x).id).Nodup → l[i]? = some y → without (l.map f) (f y).id = (l.eraseIdx i).map f
  | [], i, y, _, h => by simp at h
  | x :: l, 0, y, hd, h => by
    simp at h
    subst h
    rw [List.map_cons, List.nodup_cons] at hd
    unfold without
    rw [List.map_cons, List.filter_cons, if_neg (by simp)]
    show _ = l.map f
    refine List.filter_eq_self.2 fun b hb => ?_
    obtain ⟨z, hz, rfl⟩ := List.mem_map.1 hb
    have : ¬ (f z).id = (f x).id := fun e => hd.1 (List.mem_map.2 ⟨z, hz, e⟩)
    simp [this]
  | x :: l, i + 1, y, hd, h => by
    have h' : l[i]? = some y := by simpa using h
    rw [List.map_cons, List.nodup_cons] at hd
    have hne : ¬ (f x).id = (f y).id := fun e => hd.1 (List.mem_map.2 ⟨y, List.mem_of_getElem? h', e.symm⟩)
    have ih := erase_wo f hd.2 h'
    unfold without at ih ⊢
    rw [List.map_cons, List.filter_cons, if_pos (by simp [hne]), ih]
    rfl
theorem sumB_tot (l : List AX) : sumB l = totS (l.map AX.pl) := by
  unfold sumB totS
  rw [List.map_map]; rfl
theorem pickR_hit {L : List Rl} {now budget : Int} {here : List Ar} {k : Nat} {a : Ar} (h1 : 1 ≤ k) (h3 : k ≤ 3) (hno : ∀ j, 1 ≤ j → j < k → bestF (goB L now budget here j) here none = none) (h : bestF (goB L now budget here k) here none = some a) : pickR L now budget here = some (a, k) := by
  unfold pickR
  rcases (show k = 1 ∨ k = 2 ∨ k = 3 by omega) with rfl | rfl | rfl
  · rw [h]
  · rw [hno 1 (by omega) (by omega), h]
  · rw [hno 1 (by omega) (by omega), hno 2 (by omega) (by omega), h]
theorem pickR_miss {L : List Rl} {now budget : Int} {here : List Ar} (hno : ∀ j, 1 ≤ j → j < 4 → bestF (goB L now budget here j) here none = none) : pickR L now budget here = none := by
  unfold pickR
  rw [hno 1 (by omega) (by omega), hno 2 (by omega) (by omega), hno 3 (by omega) (by omega)]
theorem axC_flat (l : List AX) : (l.flatMap axC).length = l.length * 39 := len_flat axC 39 l (fun _ _ => rfl)
theorem src_row {w : World} {p : Option Addr} {l : List AX} (h : RowA axC 39 w p l) : SrcP w p (l.flatMap axC) := by
  refine ⟨fun j u hj => ?_, fun u hu => by obtain ⟨z, _, hz⟩ := List.mem_flatMap.1 hu; exact axC_one z u hz⟩
  have hlt := (List.getElem?_eq_some_iff.1 hj).1
  rw [axC_flat] at hlt
  obtain ⟨y, b, o, hy, hp, hat⟩ := h.get (k := j / 39) (by omega)
  have h1 := flat_get axC 39 l (j / 39) y (j % 39) (fun _ _ => rfl) hy (by omega)
  rw [show j / 39 * 39 + j % 39 = j by omega, hj] at h1
  refine ⟨b, o, hp, ?_⟩
  have := hat.cell h1.symm
  rwa [show o + j / 39 * 39 + j % 39 = o + j by omega] at this

set_option maxRecDepth 100000 in
set_option maxHeartbeats 4000000 in
theorem xplan_any (L : List Rl) (p : Option Addr) (c : Nat) (l : List AX) (q : Option Addr) (d : Nat) (now budget : Int) (w : World) (hR : RowA rlC 3 w p L) (hA : RowA axC 39 w q l) (hX : ∀ x ∈ l, AXR w x) (hsz : ∀ x ∈ l, ArSz x) (hz : ∀ x ∈ l, ∀ z ∈ x.gs, z.size ≤ 140737488355328) (hl : l.length ≤ 1000) (hld : l.length ≤ d) :
    Calls Try.prog 23 #[.slice p L.length c, .slice q l.length d, .int .i64 now, .int .i64 budget] w fun e w' => K0 w w' ∧
      ((planErr L (l.map AX.pl) now budget ≠ 0 ∧ e = .returned (.tuple #[.slice none 0 0, .slice none 0 0, .int .i64 (planErr L (l.map AX.pl) now budget)])) ∨
       (planErr L (l.map AX.pl) now budget = 0 ∧ ∃ (R : List ((Nat → Int) × Nat)) (T : List AX) (p1 : Option Addr) (c1 : Nat) (p2 : Option Addr) (c2 : Nat), e = .returned (.tuple #[.slice p1 R.length c1, .slice p2 T.length c2, .int .i64 0]) ∧
          w'.ownsRow w.heap.size 96 33 (.slice p1 R.length c1) R.length (R.flatMap whyC) ∧ w'.ownsRow w.heap.size 48 39 (.slice p2 T.length c2) T.length (T.flatMap axC) ∧
          R.map whyS = (refP L now budget l.length (l.map AX.pl)).1 ∧ T.map AX.pl = (refP L now budget l.length (l.map AX.pl)).2 ∧ (∀ r ∈ R, ∀ j, 0 ≤ r.1 j ∧ r.1 j ≤ 255) ∧ (∀ x ∈ T, x ∈ l))) := by
  refine vc_xplan p L.length c q l.length d now budget w _ ?_
  refine ⟨(xwrong_any L p c l q d now budget w hR hA hl hld (fun x hx => (hsz x hx).id)).mono fun e w1 ⟨he, k1⟩ => ⟨_, he, .of_k0 k1, bsp_intro (fun h0 => ?_) (fun h0 => ?_)⟩⟩
  · have h0 : planErr L (l.map AX.pl) now budget ≠ 0 := by simpa using h0
    exact ⟨k1, .inl ⟨h0, rfl⟩⟩
  have h0 : planErr L (l.map AX.pl) now budget = 0 := by simpa using h0
  have hchk : chkR L = 0 := by
    unfold planErr at h0
    split at h0
    · rename_i h; exact absurd h0 h
    · rename_i h; simpa using h
  have herr : errA [] (l.map AX.pl) = 0 := by
    unfold planErr at h0
    rw [if_neg (by simpa using hchk)] at h0
    split at h0
    · cases h0
    · exact h0
  obtain ⟨hgoodA, hnd⟩ := errA_ok .nil herr
  rw [List.nil_append, List.map_map] at hnd
  have hok : ∀ x ∈ l, ArOK x := fun x hx => by
    have h := hsz x hx
    exact arOK_of (hgoodA x.pl (List.mem_map.2 ⟨x, hx, rfl⟩)) h.gl h.gz h.hl h.id h.hs
  intro n1 W hW
  have kW : K0 w1 W := hW.kk rfl
  have kwW : K0 w W := k1.trans kW
  have g1 : w.heap.size ≤ n1 := Nat.le_trans k1.size (hW.fresh 0 rfl rfl)
  refine ⟨w.heap.size, [], l.flatMap axC, own_none g1 (hW.cells 0 rfl), axC_flat l, src_row (hA.k0 kwW), by omega, by omega, kwW.size, fun p' c' w2 ho2 hg2 _ => ?_⟩
  have k2' := kp_grown hg2
  have n1o : ∀ j, (Value.slice (some (Addr.mk n1 0 none)) 0 0).ownBlock = some j → j = n1 := fun j h => by simp [Value.ownBlock] at h; exact h.symm
  have kw2 : K0 w w2 := kwW.fresh k2' (fun j hj e => by have := n1o j e; omega)
  refine ⟨.of_kp k2' (fun z hz => by cases hz), ?_⟩
  rw [Nat.zero_add] at ho2 ⊢
  rw [List.nil_append] at ho2
  -- the steps
  refine ⟨fun vs w' => ∃ (here : List AX) (p3 : Option Addr) (c3 k : Nat) (R : List ((Nat → Int) × Nat)) (p4 : Option Addr) (c4 : Nat), vs = [.slice p3 here.length c3, .int .i64 (k : Int), .slice p4 R.length c4] ∧ 1 ≤ k ∧ k ≤ 4 ∧ R.length + here.length = l.length ∧ (∀ x ∈ here, x ∈ l) ∧ (here.map fun x => x.pl.id).Nodup ∧
      (∀ j, 1 ≤ j → j < k → bestF (goB L now budget (here.map AX.pl) j) (here.map AX.pl) none = none) ∧
      R.map whyS ++ (refP L now budget here.length (here.map AX.pl)).1 = (refP L now budget l.length (l.map AX.pl)).1 ∧ (refP L now budget here.length (here.map AX.pl)).2 = (refP L now budget l.length (l.map AX.pl)).2 ∧ (∀ r ∈ R, ∀ j, 0 ≤ r.1 j ∧ r.1 j ≤ 255) ∧
      w'.ownsRow w.heap.size 48 39 (.slice p3 here.length c3) here.length (here.flatMap axC) ∧ w'.ownsRow w.heap.size 96 33 (.slice p4 R.length c4) R.length (R.flatMap whyC) ∧ K0 w w',
    fun vs _ => (match vs with | .slice _ n _ :: .int _ k :: _ => n * 5 + (4 - k.toNat) | _ => 0), ⟨l, p', c', 1, [], none, 0, rfl, by omega, by omega, by simp, (fun x hx => hx), hnd, (fun j a b => by omega), rfl, rfl, (fun r hr => by cases hr), ho2, World.ownsRow_nil _ _ _ _, kw2⟩, ?_⟩
  rintro p3 n3 c3 x p4 n4 c4 w3 ⟨here, p3', c3', k, R, p4', c4', hv, hk1, hk4, hRl, hhl, hndh, hno, hR1, hR2, hRb, ho3, ho4, kw3⟩
  simp only [List.cons.injEq, Value.slice.injEq, Value.int.injEq, true_and, and_true] at hv
  obtain ⟨⟨rfl, rfl, rfl⟩, rfl, rfl, rfl, rfl⟩ := hv
  have hokh : ∀ x ∈ here, ArOK x := fun x hx => hok x (hhl x hx)
  have hrow : RowA axC 39 w3 p3 here := RowA.own ho3 axC_length (by decide)
  refine bsp_intro (fun hk3 => ?_) (fun hk3 => ?_)
  rotate_left
  · have hk : k = 4 := by simp at hk3; omega
    subst hk
    have hpn := pickR_miss hno
    have e1 : refP L now budget here.length (here.map AX.pl) = ([], here.map AX.pl) := by
      cases here.length with
      | zero => rfl
      | succ n => simp only [refP, hpn]
    rw [e1] at hR1 hR2
    rw [List.append_nil] at hR1
    exact ⟨kw3, .inr ⟨h0, R, here, p4, c4, p3, c3, rfl, ho4, ho3, hR1, hR2, hRb, hhl⟩⟩
  have hk3 : k ≤ 3 := by simp at hk3; omega
  have hkk : k = 1 ∨ k = 2 ∨ k = 3 := by omega
  generalize hG0 : bestF (goB L now budget (here.map AX.pl) k) (here.map AX.pl) none = best0
  refine ⟨fun vs w' => ∃ (i : Nat) (bi : Int) (cur : Option Ar), vs = [.int .i64 (i : Int), .int .i64 bi] ∧ i ≤ here.length ∧ ((bi = -1 ∧ cur = none) ∨ ∃ (j : Nat) (z : AX), bi = (j : Int) ∧ j < here.length ∧ here[j]? = some z ∧ cur = some z.pl) ∧
      bestF (goB L now budget (here.map AX.pl) k) ((here.drop i).map AX.pl) cur = best0 ∧ K0 w3 w',
    fun vs _ => (match vs with | .int _ a :: _ => here.length - a.toNat | _ => 0), ⟨0, -1, none, rfl, by omega, .inl ⟨rfl, rfl⟩, hG0, .refl _ _⟩, ?_⟩
  rintro a bi w4 ⟨i, bi', cur, hv, hi, hst, hbest, k4⟩
  simp only [List.cons.injEq, Value.int.injEq, true_and, and_true] at hv
  obtain ⟨rfl, rfl⟩ := hv
  refine bsp_intro (fun hlt => ?_) (fun hge => ?_)
  · have hlt : i < here.length := by simp at hlt; omega
    intro W5 hW5
    have k5 : K0 w4 W5 := hW5.kk rfl
    obtain ⟨y, b, o, hy, hp, hat⟩ := (hrow.k0 (k4.trans k5)).get hlt
    have hyl := List.mem_of_getElem? hy
    have hdr : (here.drop i).map AX.pl = y.pl :: (here.drop (i + 1)).map AX.pl := by
      rw [List.drop_eq_getElem_cons hlt]
      rw [List.getElem?_eq_getElem hlt] at hy
      simp at hy
      rw [hy]; rfl
    have hgo := fun wq (kq : K0 W5 wq) => xgoes_any L p c here p3 c3 y now k wq (hR.k0 (((kw3.trans k4).trans k5).trans kq)) hchk (hrow.k0 ((k4.trans k5).trans kq)) (by omega) (fun z hz => (hokh z hz).id) ((hX y (hhl y hyl)).k0 (((kw3.trans k4).trans k5).trans kq)) (hokh y hyl) (hz y (hhl y hyl)) hkk
    refine ⟨fun wx => K0 W5 wx, .refl _ _, bsp_intro (fun h3 => ?_) (fun h3 => ?_)⟩
    · -- step 3: the sum first
      have hk3' : k = 3 := by simp at h3; omega
      have htot := sumB_tot here
      refine ⟨(xtotal_any here p3 c3 W5 (hrow.k0 (k4.trans k5)) (by omega) (fun z hz => (hokh z hz).by_)).mono fun e w6 ⟨he, k6'⟩ => ⟨_, he, k6', nn_eq hp ⟨gimp_intro fun _ => by omega, y.id, y.dt, y.ar, y.gp, y.gs.length, y.gc, y.by_, y.ct, y.hp, y.hs.length, y.hc, y.wd, gimp_intro fun _ wx kx => by rw [Int.toNat_natCast]; exact hat.k0 kx, bsp_intro (fun hb => ?_) (fun hb => ?_)⟩⟩⟩
      · have hb : decide (totS (here.map AX.pl) > budget) = true := by rw [← htot]; simpa using hb
        refine ⟨(hgo w6 k6').mono fun e w7 ⟨he, k7⟩ => ⟨_, he, k6'.trans k7, ?_⟩⟩
        have kE : K0 W5 w7 := k6'.trans k7
        have kwE : K0 w3 w7 := (k4.trans k5).trans kE
        have k6 : K0 W5 W5 := .refl _ _
        have hgoB : ∀ y : AX, goR L now (here.map AX.pl) k y.pl = true → goB L now budget (here.map AX.pl) k y.pl = true := fun y h => by rw [goR_goB hkk, h, hb, Bool.or_true]; rfl
        have hgoN : ∀ y : AX, goR L now (here.map AX.pl) k y.pl = false → goB L now budget (here.map AX.pl) k y.pl = false := fun y h => by rw [goR_goB hkk, h, Bool.and_false]
        -- what goes with it (x: whether it goes)
        refine nn_eq hp ⟨gimp_intro fun _ => by omega, y.id, y.dt, y.ar, y.gp, y.gs.length, y.gc, y.by_, y.ct, y.hp, y.hs.length, y.hc, y.wd, gimp_intro fun _ wx kx => by rw [Int.toNat_natCast]; exact hat.k0 (k6.trans kx), ?_⟩
        rcases hst with ⟨rfl, hcur⟩ | ⟨j, z, rfl, hj, hz, hcur⟩
        · refine nn_eq hp ⟨gimp_intro fun h => by simp at h, y.id, y.dt, y.ar, y.gp, y.gs.length, y.gc, y.by_, y.ct, y.hp, y.hs.length, y.hc, y.wd, gimp_intro fun h => by simp at h, ?_⟩
          refine bsp_intro (fun hx => bsp_intro (fun h => by simp at h) (fun _ => ?_)) (fun hx => ?_)
          · have hx : goR L now (here.map AX.pl) k y.pl = true := by simpa using hx
            have hG := hgoB y hx
            refine ⟨.of_k0 kE, ⟨i + 1, (i : Int), some y.pl, by rw [inc64 (by omega)], hlt, .inr ⟨i, y, rfl, hlt, hy, rfl⟩, ?_, kwE⟩, by rw [inc64 (by omega)]; simp only [Int.toNat_natCast]; omega⟩
            rw [← hbest, hcur, hdr]
            show _ = bestF _ (y.pl :: _) none
            simp only [bestF, hG, if_true]
          · have hx : goR L now (here.map AX.pl) k y.pl = false := by simpa using hx
            have hG := hgoN y hx
            refine ⟨.of_k0 kE, ⟨i + 1, -1, none, by rw [inc64 (by omega)], hlt, .inl ⟨rfl, rfl⟩, ?_, kwE⟩, by rw [inc64 (by omega)]; simp only [Int.toNat_natCast]; omega⟩
            rw [← hbest, hcur, hdr]
            show _ = bestF _ (y.pl :: _) none
            simp only [bestF, hG, Bool.false_eq_true, if_false]
        · obtain ⟨b8, o8, hp8, hat8⟩ := (hrow.k0 (k4.trans k5)) j z hz
          rw [hp] at hp8
          simp only [Option.some.injEq, Addr.mk.injEq, and_true] at hp8
          obtain ⟨rfl, rfl⟩ := hp8
          refine nn_eq hp ⟨gimp_intro fun _ => by omega, z.id, z.dt, z.ar, z.gp, z.gs.length, z.gc, z.by_, z.ct, z.hp, z.hs.length, z.hc, z.wd, gimp_intro fun _ wx kx => by rw [Int.toNat_natCast]; exact hat8.k0 kx, ?_⟩
          refine bsp_intro (fun hx => bsp_intro (fun _ => ?_) (fun h => by exfalso; simp at h; omega)) (fun hx => ?_)
          · have hx : goR L now (here.map AX.pl) k y.pl = true := by simpa using hx
            have hG := hgoB y hx
            have holder := fun wq => xolder_any y z wq
            refine ⟨(holder _).mono fun e w8 ⟨he, k8⟩ => ⟨_, he, .of_k0 (kE.trans k8), ?_⟩⟩
            have hzl := List.mem_of_getElem? hz
            have hK : decide (cfJ (y.ar, idI y.id) (z.ar, idI z.id) < 0) = decide (cfK (keyA y.pl) (keyA z.pl) < 0) := by
              rw [show cfK (keyA y.pl) (keyA z.pl) = cfJ (y.ar, idI y.id) (z.ar, idI z.id) from cfJ_K (x := (y.ar, idI y.id)) (y := (z.ar, idI z.id)) (idI_bd (hokh y hyl).id) (idI_bd (hokh z hzl).id)]
            rw [hK]
            refine bsp_intro (fun ho => ?_) (fun ho => ?_)
            · have ho : cfK (keyA y.pl) (keyA z.pl) < 0 := by simpa using ho
              refine ⟨⟨i + 1, (i : Int), some y.pl, by rw [inc64 (by omega)], hlt, .inr ⟨i, y, rfl, hlt, hy, rfl⟩, ?_, kwE.trans k8⟩, by rw [inc64 (by omega)]; simp only [Int.toNat_natCast]; omega⟩
              rw [← hbest, hcur, hdr]
              show _ = bestF _ (y.pl :: _) (some z.pl)
              simp only [bestF]
              rw [if_pos ⟨hG, ho⟩]
            · have ho : ¬ cfK (keyA y.pl) (keyA z.pl) < 0 := by simpa using ho
              refine ⟨⟨i + 1, (j : Int), some z.pl, by rw [inc64 (by omega)], hlt, .inr ⟨j, z, rfl, hj, hz, rfl⟩, ?_, kwE.trans k8⟩, by rw [inc64 (by omega)]; simp only [Int.toNat_natCast]; omega⟩
              rw [← hbest, hcur, hdr]
              show _ = bestF _ (y.pl :: _) (some z.pl)
              simp only [bestF]
              rw [if_neg (fun h => ho h.2)]
          · have hx : goR L now (here.map AX.pl) k y.pl = false := by simpa using hx
            have hG := hgoN y hx
            refine ⟨.of_k0 kE, ⟨i + 1, (j : Int), some z.pl, by rw [inc64 (by omega)], hlt, .inr ⟨j, z, rfl, hj, hz, rfl⟩, ?_, kwE⟩, by rw [inc64 (by omega)]; simp only [Int.toNat_natCast]; omega⟩
            rw [← hbest, hcur, hdr]
            show _ = bestF _ (y.pl :: _) (some z.pl)
            simp only [bestF]
            rw [if_neg (fun h => by rw [hG] at h; exact absurd h.1 (by decide))]
      · have hb : decide (totS (here.map AX.pl) > budget) = false := by rw [← htot]; simpa using hb
        have hG : goB L now budget (here.map AX.pl) k y.pl = false := by rw [goR_goB hkk, hb, hk3']; rfl
        refine ⟨k6', nn_eq hp ⟨trivial, y.id, 0, 0, none, 0, 0, 0, 0, none, 0, 0, false, trivial, nn_eq hp ⟨trivial, y.id, 0, 0, none, 0, 0, 0, 0, none, 0, 0, false, trivial, .of_k0 k6', ⟨i + 1, bi, cur, by rw [inc64 (by omega)], hlt, hst, ?_, (k4.trans k5).trans k6'⟩, by rw [inc64 (by omega)]; simp only [Int.toNat_natCast]; omega⟩⟩⟩
        rw [← hbest, hdr]
        cases cur with
        | none =>
          show _ = bestF _ (y.pl :: _) none
          simp only [bestF, hG, Bool.false_eq_true, if_false]
        | some u =>
          show _ = bestF _ (y.pl :: _) (some u)
          simp only [bestF]
          rw [if_neg (fun h => by rw [hG] at h; exact absurd h.1 (by decide))]
    · have hk2 : k < 3 := by simp at h3; omega
      refine ⟨.refl _ _, nn_eq hp ⟨by omega, y.id, y.dt, y.ar, y.gp, y.gs.length, y.gc, y.by_, y.ct, y.hp, y.hs.length, y.hc, y.wd, fun wx kx => by rw [Int.toNat_natCast]; exact hat.k0 kx, ?_⟩⟩
      · refine ⟨(hgo W5 (.refl _ _)).mono fun e w7 ⟨he, k7⟩ => ⟨_, he, k7, ?_⟩⟩
        have kE : K0 W5 w7 := k7
        have kwE : K0 w3 w7 := (k4.trans k5).trans kE
        have k6 : K0 W5 W5 := .refl _ _
        have hd3 : decide (k < 3) = true := by simpa using hk2
        have hgoB : ∀ y : AX, goR L now (here.map AX.pl) k y.pl = true → goB L now budget (here.map AX.pl) k y.pl = true := fun y h => by rw [goR_goB hkk, h, hd3, Bool.true_or]; rfl
        have hgoN : ∀ y : AX, goR L now (here.map AX.pl) k y.pl = false → goB L now budget (here.map AX.pl) k y.pl = false := fun y h => by rw [goR_goB hkk, h, Bool.and_false]
        -- what goes with it (x: whether it goes)
        refine nn_eq hp ⟨gimp_intro fun _ => by omega, y.id, y.dt, y.ar, y.gp, y.gs.length, y.gc, y.by_, y.ct, y.hp, y.hs.length, y.hc, y.wd, gimp_intro fun _ wx kx => by rw [Int.toNat_natCast]; exact hat.k0 (k6.trans kx), ?_⟩
        rcases hst with ⟨rfl, hcur⟩ | ⟨j, z, rfl, hj, hz, hcur⟩
        · refine nn_eq hp ⟨gimp_intro fun h => by simp at h, y.id, y.dt, y.ar, y.gp, y.gs.length, y.gc, y.by_, y.ct, y.hp, y.hs.length, y.hc, y.wd, gimp_intro fun h => by simp at h, ?_⟩
          refine bsp_intro (fun hx => bsp_intro (fun h => by simp at h) (fun _ => ?_)) (fun hx => ?_)
          · have hx : goR L now (here.map AX.pl) k y.pl = true := by simpa using hx
            have hG := hgoB y hx
            refine ⟨.of_k0 kE, ⟨i + 1, (i : Int), some y.pl, by rw [inc64 (by omega)], hlt, .inr ⟨i, y, rfl, hlt, hy, rfl⟩, ?_, kwE⟩, by rw [inc64 (by omega)]; simp only [Int.toNat_natCast]; omega⟩
            rw [← hbest, hcur, hdr]
            show _ = bestF _ (y.pl :: _) none
            simp only [bestF, hG, if_true]
          · have hx : goR L now (here.map AX.pl) k y.pl = false := by simpa using hx
            have hG := hgoN y hx
            refine ⟨.of_k0 kE, ⟨i + 1, -1, none, by rw [inc64 (by omega)], hlt, .inl ⟨rfl, rfl⟩, ?_, kwE⟩, by rw [inc64 (by omega)]; simp only [Int.toNat_natCast]; omega⟩
            rw [← hbest, hcur, hdr]
            show _ = bestF _ (y.pl :: _) none
            simp only [bestF, hG, Bool.false_eq_true, if_false]
        · obtain ⟨b8, o8, hp8, hat8⟩ := (hrow.k0 (k4.trans k5)) j z hz
          rw [hp] at hp8
          simp only [Option.some.injEq, Addr.mk.injEq, and_true] at hp8
          obtain ⟨rfl, rfl⟩ := hp8
          refine nn_eq hp ⟨gimp_intro fun _ => by omega, z.id, z.dt, z.ar, z.gp, z.gs.length, z.gc, z.by_, z.ct, z.hp, z.hs.length, z.hc, z.wd, gimp_intro fun _ wx kx => by rw [Int.toNat_natCast]; exact hat8.k0 kx, ?_⟩
          refine bsp_intro (fun hx => bsp_intro (fun _ => ?_) (fun h => by exfalso; simp at h; omega)) (fun hx => ?_)
          · have hx : goR L now (here.map AX.pl) k y.pl = true := by simpa using hx
            have hG := hgoB y hx
            have holder := fun wq => xolder_any y z wq
            refine ⟨(holder _).mono fun e w8 ⟨he, k8⟩ => ⟨_, he, .of_k0 (kE.trans k8), ?_⟩⟩
            have hzl := List.mem_of_getElem? hz
            have hK : decide (cfJ (y.ar, idI y.id) (z.ar, idI z.id) < 0) = decide (cfK (keyA y.pl) (keyA z.pl) < 0) := by
              rw [show cfK (keyA y.pl) (keyA z.pl) = cfJ (y.ar, idI y.id) (z.ar, idI z.id) from cfJ_K (x := (y.ar, idI y.id)) (y := (z.ar, idI z.id)) (idI_bd (hokh y hyl).id) (idI_bd (hokh z hzl).id)]
            rw [hK]
            refine bsp_intro (fun ho => ?_) (fun ho => ?_)
            · have ho : cfK (keyA y.pl) (keyA z.pl) < 0 := by simpa using ho
              refine ⟨⟨i + 1, (i : Int), some y.pl, by rw [inc64 (by omega)], hlt, .inr ⟨i, y, rfl, hlt, hy, rfl⟩, ?_, kwE.trans k8⟩, by rw [inc64 (by omega)]; simp only [Int.toNat_natCast]; omega⟩
              rw [← hbest, hcur, hdr]
              show _ = bestF _ (y.pl :: _) (some z.pl)
              simp only [bestF]
              rw [if_pos ⟨hG, ho⟩]
            · have ho : ¬ cfK (keyA y.pl) (keyA z.pl) < 0 := by simpa using ho
              refine ⟨⟨i + 1, (j : Int), some z.pl, by rw [inc64 (by omega)], hlt, .inr ⟨j, z, rfl, hj, hz, rfl⟩, ?_, kwE.trans k8⟩, by rw [inc64 (by omega)]; simp only [Int.toNat_natCast]; omega⟩
              rw [← hbest, hcur, hdr]
              show _ = bestF _ (y.pl :: _) (some z.pl)
              simp only [bestF]
              rw [if_neg (fun h => ho h.2)]
          · have hx : goR L now (here.map AX.pl) k y.pl = false := by simpa using hx
            have hG := hgoN y hx
            refine ⟨.of_k0 kE, ⟨i + 1, (j : Int), some z.pl, by rw [inc64 (by omega)], hlt, .inr ⟨j, z, rfl, hj, hz, rfl⟩, ?_, kwE⟩, by rw [inc64 (by omega)]; simp only [Int.toNat_natCast]; omega⟩
            rw [← hbest, hcur, hdr]
            show _ = bestF _ (y.pl :: _) (some z.pl)
            simp only [bestF]
            rw [if_neg (fun h => by rw [hG] at h; exact absurd h.1 (by decide))]
  · have hi : i = here.length := by simp at hge; omega
    rw [hi, List.drop_length] at hbest
    have hbest : cur = best0 := hbest
    subst hbest
    rcases hst with ⟨rfl, rfl⟩ | ⟨j, z, rfl, hj, hz', rfl⟩
    · refine bsp_intro (fun _ => ⟨⟨here, p3, c3, k + 1, R, p4, c4, by rw [inc64 (by omega)], by omega, by omega, hRl, hhl, hndh, fun j' a b => ?_, hR1, hR2, hRb, owns_kp ho3 k4 (fun _ _ h => h), owns_kp ho4 k4 (fun _ _ h => h), kw3.trans k4⟩, ?_⟩) (fun h => by simp at h)
      · rcases Nat.lt_or_ge j' k with h | h
        · exact hno j' a h
        · rw [show j' = k by omega]; exact hG0
      · rw [inc64 (by omega)]; simp only [Int.toNat_natCast]; omega
    · refine bsp_intro (fun h => by exfalso; simp at h; omega) (fun _ => ?_)
      have hpick := pickR_hit hk1 hk3 hno hG0
      have hzl := List.mem_of_getElem? hz'
      obtain ⟨b, o, hp, hat⟩ := (hrow.k0 k4) j z hz'
      refine nn_eq hp ⟨by omega, z.id, by rw [Int.toNat_natCast]; exact hat.pre, fun n9 W9 hW9 => ?_⟩
      have k9 : K0 w4 W9 := hW9.kk rfl
      have kw9 : K0 w W9 := (kw3.trans k4).trans k9
      have ho4' := owns_kp ho4 (k4.trans k9) (fun _ _ h => h)
      have ho3' := owns_kp ho3 (k4.trans k9) (fun _ _ h => h)
      refine ⟨w.heap.size, _, ho4', by omega, by omega, kw9.size, fun p5 c5 w10 ho10 hg10 _ => ⟨.of_kp (kp_grown hg10) (fun z hz => by cases hz), fun W11 hW11 => ?_⟩⟩
      have k10 := kp_grown hg10
      have k11 : K0 w10 W11 := hW11.kk rfl
      have r43 : ∀ m, (Value.slice p3 here.length c3).ownBlock = some m → ¬ (Value.slice p4 R.length c4).ownBlock = some m := fun m hm e => by
        obtain ⟨cc, hcc⟩ := own_type ho3' hm
        exact own_not ho4' hcc rfl e
      have ho3'' := owns_kp (owns_kp ho3' k10 r43) k11 (fun _ _ h => h)
      have ho5 := owns_kp ho10 k11 (fun _ _ h => h)
      have kw10 : K0 w w10 := kw9.fresh k10 (fun m hm e => by have := own_ge ho4' e; omega)
      have kw11 : K0 w W11 := kw10.trans k11
      have hc3 := own_le ho3
      rw [inc64 (by omega)]
      refine ⟨fun _ => True, trivial, by omega, by omega, fun n12 w12 hn12 => ?_⟩
      have k12 : K0 W11 w12 := hn12.kp _
      have kw12 : K0 w w12 := kw11.trans k12
      have g12 : w.heap.size ≤ n12 := Nat.le_trans kw11.size hn12.ge
      have ho3d := owns_kp ho3'' k12 (fun _ _ h => h)
      have one : ∀ u ∈ here.flatMap axC, u.oneCell' = true := fun u hu => by obtain ⟨z, _, hz⟩ := List.mem_flatMap.1 hu; exact axC_one z u hz
      have hlen3 := ho3.1
      rw [Int.toNat_natCast, Int.toNat_natCast]
      refine ⟨w.heap.size, [], (here.flatMap axC).take (j * 39), own_none g12 hn12.block, ?_, src_take ho3d one _, by omega, by omega, kw12.size, fun p6 c6 w13 ho13 hg13 _ => ?_⟩
      · rw [List.length_take, hlen3]; exact Nat.min_eq_left (Nat.mul_le_mul_right _ (by omega))
      have k13 := kp_grown hg13
      have n12o : ∀ m, (Value.slice (some (Addr.mk n12 0 none)) 0 0).ownBlock = some m → m = n12 := fun m h => by simp [Value.ownBlock] at h; exact h.symm
      have kw13 : K0 w w13 := kw12.fresh k13 (fun m hm e => by have := n12o m e; omega)
      have hn12r : ∀ {m : Nat}, m < W11.heap.size → ¬ (Value.slice (some (Addr.mk n12 0 none)) 0 0).ownBlock = some m := fun {m} hm e => by
        have := n12o m e
        have := hn12.ge
        omega
      have ho3e := owns_kp ho3d k13 (fun m hm => hn12r (own_lt ho3'' hm))
      rw [Nat.zero_add] at ho13 ⊢
      refine ⟨w.heap.size, _, (here.flatMap axC).drop ((j + 1) * 39), ho13, ?_, src_drop ho3e one hj, by omega, by omega, kw13.size, fun p7 c7 w14 ho14 hg14 _ => ?_⟩
      · rw [List.length_drop, hlen3, Nat.sub_mul]
      have k14 := kp_grown hg14
      have kw14 : K0 w w14 := kw13.fresh k14 (fun m hm e => by have := own_ge ho13 e; omega)
      have hel : (here.eraseIdx j).length = here.length - 1 := List.length_eraseIdx_of_lt hj
      have em : j + (here.length - (j + 1)) = (here.eraseIdx j).length := by omega
      rw [List.nil_append, erase_flat axC 39 here j axC_length, em] at ho14
      rw [em]
      have ho5e := owns_kp (owns_kp ho5 k12 (fun _ _ h => h)) k13 (fun m hm => hn12r (own_lt ho5 hm))
      have ho5f := owns_kp ho5e k14 (fun m hm e => by
        obtain ⟨cc, hcc⟩ := own_type ho5e hm
        exact own_not ho13 hcc rfl e)
      have hwo := erase_wo AX.pl hndh hz'
      have e1 : here.length = (here.eraseIdx j).length + 1 := by omega
      have e2 : refP L now budget here.length (here.map AX.pl) = ((z.pl.id, k) :: (refP L now budget (here.eraseIdx j).length ((here.eraseIdx j).map AX.pl)).1, (refP L now budget (here.eraseIdx j).length ((here.eraseIdx j).map AX.pl)).2) := by
        rw [e1]
        simp only [refP, hpick, hwo]
      rw [e2] at hR1 hR2
      refine ⟨.of_kp (M := fun _ => True) (((k12.mono fun _ _ h => h.elim).trans (k13.mono fun _ _ _ => trivial)).trans (k14.mono fun _ _ _ => trivial)) (fun z hz => by cases hz), ⟨here.eraseIdx j, p7, c7, 1, R ++ [(z.id, k)], p5, c5, by simp, by omega, by omega, ?_, fun x hx => hhl x (List.mem_of_mem_eraseIdx hx), hndh.sublist ((List.eraseIdx_sublist here j).map _), (fun j' a b => by omega), ?_, hR2, ?_, ho14, ?_, kw14⟩, ?_⟩
      · rw [List.length_append, hel]; simp only [List.length_cons, List.length_nil]; omega
      · rw [← hR1, List.map_append, List.append_assoc]; rfl
      · intro r hr
        rcases List.mem_append.1 hr with h | h
        · exact hRb r h
        · simp at h
          subst h
          exact (hokh z hzl).id
      · rw [List.flatMap_append]
        have e : (R ++ [(z.id, k)]).length = R.length + 1 := by simp
        rw [e]
        simpa [whyC, whyL] using ho5f
      · simp only [Int.toNat_natCast]
        have : (1 : Int).toNat = 1 := rfl
        omega

end Go.Proofs.Ytmjanmffnblcoaa

/- The formulas of functions by the symbolic evaluator, and that each gives the call's contract. Written by a program (gen.py). No condition. -/
namespace Go.Proofs.Ytmjanmffnblcoaa
set_option maxRecDepth 100000
set_option linter.unusedVariables false

def VC_lsmall (p : Option Addr) (n : Nat) (c : Nat) (q : Option Addr) (k : Nat) (d : Nat) (w : World) (R : Ending → World → Prop) : Prop :=
 ∃ (I : List Value → World → Prop),
 ∃ (m : List Value → World → Nat),
 I [Value.int IntKind.i64 0] w ∧
 ∀ (x : Int) (w' : World),
 I [Value.int IntKind.i64 x] w' →
 bsp (decide (x < (↑n : Int)))
 (nn true p fun (b o : Nat) =>
 (0 ≤ x ∧ x < (↑n : Int)) ∧
 ∃ (x_1 : ByteArray),
 w'.cell? (Addr.mk b (o + x.toNat * 3) none) = some (Value.string x_1) ∧
 bsp (decide ((↑x_1.size : Int) > 100)) (R (Ending.returned (Value.bool false)) w')
 (I [Value.int IntKind.i64 (IntKind.i64.wrap (x + 1))] w' ∧
 m [Value.int IntKind.i64 (IntKind.i64.wrap (x + 1))] w' < m [Value.int IntKind.i64 x] w'))
 (∃ (I : List Value → World → Prop),
 ∃ (m : List Value → World → Nat),
 I [Value.int IntKind.i64 0] w' ∧
 ∀ (x : Int) (w' : World),
 I [Value.int IntKind.i64 x] w' →
 bsp (decide (x < (↑k : Int)))
 (nn true q fun (b o : Nat) =>
 (0 ≤ x ∧ x < (↑k : Int)) ∧
 ∃ (p : Option Addr),
 ∃ (n : Nat),
 ∃ (c : Nat),
 w'.cell? (Addr.mk b (o + x.toNat * 39 + 34) none) = some (Value.slice p n c) ∧
 nn (!decide ((↑n : Int) > 5)) q fun (b o : Nat) =>
 gimp (!decide ((↑n : Int) > 5)) (0 ≤ x ∧ x < (↑k : Int)) ∧
 ∃ (p : Option Addr),
 ∃ (n_1 : Nat),
 ∃ (c : Nat),
 gimp (!decide ((↑n : Int) > 5))
 (w'.cell? (Addr.mk b (o + x.toNat * 39 + 37) none) = some (Value.slice p n_1 c)) ∧
 bsp (decide ((↑n : Int) > 5) || decide ((↑n_1 : Int) > 5))
 (R (Ending.returned (Value.bool false)) w')
 (∃ (I_1 : List Value → World → Prop),
 ∃ (m_1 : List Value → World → Nat),
 I_1 [Value.int IntKind.i64 0] w' ∧
 ∀ (x_1 : Int) (w'_1 : World),
 I_1 [Value.int IntKind.i64 x_1] w'_1 →
 nn true q fun (b o : Nat) =>
 (0 ≤ x ∧ x < (↑k : Int)) ∧
 ∃ (p : Option Addr),
 ∃ (n : Nat),
 ∃ (c : Nat),
 w'_1.cell? (Addr.mk b (o + x.toNat * 39 + 34) none) = some (Value.slice p n c) ∧
 bsp (decide (x_1 < (↑n : Int)))
 (nn true q fun (b o : Nat) =>
 (0 ≤ x ∧ x < (↑k : Int)) ∧
 ∃ (p : Option Addr),
 ∃ (n : Nat),
 ∃ (c : Nat),
 w'_1.cell? (Addr.mk b (o + x.toNat * 39 + 34) none) =
 some (Value.slice p n c) ∧
 nn true p fun (b o : Nat) =>
 (0 ≤ x_1 ∧ x_1 < (↑n : Int)) ∧
 ∃ (x : ByteArray),
 w'_1.cell? (Addr.mk b (o + x_1.toNat) none) = some (Value.string x) ∧
 bsp (decide ((↑x.size : Int) > 60))
 (R (Ending.returned (Value.bool false)) w'_1)
 (I_1 [Value.int IntKind.i64 (IntKind.i64.wrap (x_1 + 1))] w'_1 ∧
 m_1 [Value.int IntKind.i64 (IntKind.i64.wrap (x_1 + 1))] w'_1 <
 m_1 [Value.int IntKind.i64 x_1] w'_1))
 (I [Value.int IntKind.i64 (IntKind.i64.wrap (x + 1))] w'_1 ∧
 m [Value.int IntKind.i64 (IntKind.i64.wrap (x + 1))] w'_1 <
 m [Value.int IntKind.i64 x] w')))
 (R (Ending.returned (Value.bool (decide ((↑n : Int) ≤ 10) && decide ((↑k : Int) ≤ 12)))) w'))
theorem vc_lsmall (p : Option Addr) (n : Nat) (c : Nat) (q : Option Addr) (k : Nat) (d : Nat) (w : World) (R : Ending → World → Prop) (h : VC_lsmall p n c q k d w R) : Calls Try.prog 11 ([Value.slice
    p n c,
  Value.slice q k d] : List Value).toArray w R := by
  have e : execR2 { P := Try.prog, loops := [(2, [(5, Ck.int IntKind.i64)]), (7, [(6, Ck.int IntKind.i64)]), (12, [(7, Ck.int IntKind.i64)])], pur := pur2, tails := [], joins := [], boxes := [] } Try.f11.results.toList R (Try.f11.body.getD .skip) (initF [Value.slice
    p n c,
  Value.slice q k
    d] (Try.f11.ntmps - ([Value.slice p n c,
  Value.slice q k d] : List Value).length)) w = VC_lsmall p n c q k d w R := by kernel_rfl
  have hb : Try.f11.body = some (Try.f11.body.getD .skip) := by kernel_rfl
  exact calls_of_exec2' (P := Try.prog) (fn := Try.f11) (c := Try.f11.body.getD .skip) (args := [Value.slice p n c,
  Value.slice q k d]) (w := w) (R := R) pur2_ok Try.func11 hb e h

def VC_lrules (p : Option Addr) (n : Nat) (c : Nat) (w : World) (R : Ending → World → Prop) : Prop :=
 ∃ (I : List Value → World → Prop),
 ∃ (m : List Value → World → Nat),
 I [Value.int IntKind.i64 0, Value.slice none 0 0] w ∧
 ∀ (x : Int) (p_1 : Option Addr) (n_1 c : Nat) (w' : World),
 I [Value.int IntKind.i64 x, Value.slice p_1 n_1 c] w' →
 bsp (decide (x < (↑n : Int)))
 (∀ (W : World),
 Loc w.heap.size [] w' W →
 ∃ (S : World → Prop),
 S W ∧
 nn true p fun (b o : Nat) =>
 (0 ≤ x ∧ x < (↑n : Int)) ∧
 ∃ (x_1 : ByteArray),
 (∀ (w' : World), S w' → w'.cell? (Addr.mk b (o + x.toNat * 3) none) = some (Value.string x_1)) ∧
 nn true p fun (b o : Nat) =>
 (0 ≤ x ∧ x < (↑n : Int)) ∧
 ∃ (x_2 : Int),
 (∀ (w' : World),
 S w' → w'.cell? (Addr.mk b (o + x.toNat * 3 + 1) none) = some (Value.int IntKind.i64 x_2)) ∧
 nn true p fun (b o : Nat) =>
 (0 ≤ x ∧ x < (↑n : Int)) ∧
 ∃ (x_3 : Int),
 (∀ (w' : World),
 S w' → w'.cell? (Addr.mk b (o + x.toNat * 3 + 2) none) = some (Value.int IntKind.i64 x_3)) ∧
 ∀ (n : Nat) (w1 : World),
 NewB W (Obj.cells #[Value.string x_1, Value.int IntKind.i64 x_2, Value.int IntKind.i64 x_3] 68) n
 w1 →
 ∃ (base : Nat),
 ∃ (xs : List Value),
 ∃ (news : List Value),
 w1.ownsRow base 68 3 (Value.slice p_1 n_1 c) n_1 xs ∧
 news.length = 3 ∧
 SrcP w1 (some (Addr.mk n 0 none)) news ∧
 n_1 + 1 ≤ 9223372036854775807 ∧
 (n_1 + 1) * 32 ≤ 140737488355328 ∧
 base ≤ w1.heap.size ∧
 ∀ (p' : Option Addr) (c' : Nat) (w'_1 : World),
 w'_1.ownsRow base 68 3 (Value.slice p' (n_1 + 1) c') (n_1 + 1) (xs ++ news) →
 w1.grownBy w'_1 (Value.slice p_1 n_1 c).ownBlock →
 (n_1 + 1 ≤ c → p' = p_1 ∧ c' = c) →
 KeptL [] W w'_1 ∧
 I [Value.int IntKind.i64 (IntKind.i64.wrap (x + 1)), Value.slice p' (n_1 + 1) c']
 w'_1 ∧
 m [Value.int IntKind.i64 (IntKind.i64.wrap (x + 1)), Value.slice p' (n_1 + 1) c']
 w'_1 <
 m [Value.int IntKind.i64 x, Value.slice p_1 n_1 c] w')
 (R (Ending.returned (Value.slice p_1 n_1 c)) w')
theorem vc_lrules (p : Option Addr) (n : Nat) (c : Nat) (w : World) (R : Ending → World → Prop) (h : VC_lrules p n c w R) : Calls Try.prog 12 ([Value.slice
    p n c] : List Value).toArray w R := by
  have e : execR2 { P := Try.prog, loops := [(3, [(4, Ck.int IntKind.i64), (3, Ck.slice)])], pur := pur2, tails := [(5, 17)], joins := [], boxes := [] } Try.f12.results.toList R (Try.f12.body.getD .skip) (initF [Value.slice
    p n c] (Try.f12.ntmps - ([Value.slice p n c] : List Value).length)) w = VC_lrules p n c w R := by kernel_rfl
  have hb : Try.f12.body = some (Try.f12.body.getD .skip) := by kernel_rfl
  exact calls_of_exec2' (P := Try.prog) (fn := Try.f12) (c := Try.f12.body.getD .skip) (args := [Value.slice p n
    c]) (w := w) (R := R) pur2_ok Try.func12 hb e h

def VC_lids (p : Option Addr) (n : Nat) (c : Nat) (w : World) (R : Ending → World → Prop) : Prop :=
 ∃ (I : List Value → World → Prop),
 ∃ (m : List Value → World → Nat),
 I [Value.int IntKind.i64 0, Value.slice none 0 0] w ∧
 ∀ (x : Int) (p_1 : Option Addr) (n_1 c : Nat) (w' : World),
 I [Value.int IntKind.i64 x, Value.slice p_1 n_1 c] w' →
 bsp (decide (x < (↑n : Int)))
 (nn true p fun (b o : Nat) =>
 (0 ≤ x ∧ x < (↑n : Int)) ∧
 ∃ (f : Nat → Int),
 AtL w' b (o + x.toNat * 32)
 (arrI IntKind.u8 f 32 0) ∧
 ∀ (n : Nat) (W : World),
 Loc w.heap.size
 [Blk.mk n 38
 (arrI IntKind.u8 f 32 0)
 2]
 w' W →
 ∃ (base : Nat),
 ∃ (xs : List Value),
 W.ownsRow base 38 32 (Value.slice p_1 n_1 c) n_1 xs ∧
 n_1 + 1 ≤ 9223372036854775807 ∧
 (n_1 + 1) * 32 ≤ 140737488355328 ∧
 base ≤ W.heap.size ∧
 ∀ (p' : Option Addr) (c' : Nat) (w'_1 : World),
 w'_1.ownsRow base 38 32 (Value.slice p' (n_1 + 1) c') (n_1 + 1)
 (xs ++
 (arrI IntKind.u8 f 32 0)) →
 W.grownBy w'_1 (Value.slice p_1 n_1 c).ownBlock →
 (n_1 + 1 ≤ c → p' = p_1 ∧ c' = c) →
 KeptL [] W w'_1 ∧
 I [Value.int IntKind.i64 (IntKind.i64.wrap (x + 1)), Value.slice p' (n_1 + 1) c'] w'_1 ∧
 m [Value.int IntKind.i64 (IntKind.i64.wrap (x + 1)), Value.slice p' (n_1 + 1) c'] w'_1 <
 m [Value.int IntKind.i64 x, Value.slice p_1 n_1 c] w')
 (R (Ending.returned (Value.slice p_1 n_1 c)) w')
theorem vc_lids (p : Option Addr) (n : Nat) (c : Nat) (w : World) (R : Ending → World → Prop) (h : VC_lids p n c w R) : Calls Try.prog 34 ([Value.slice
    p n c] : List Value).toArray w R := by
  have e : execR2 { P := Try.prog, loops := [(3, [(4, Ck.int IntKind.i64), (3, Ck.slice)])], pur := pur2, tails := [], joins := [], boxes := [] } Try.f34.results.toList R (Try.f34.body.getD .skip) (initF [Value.slice
    p n c] (Try.f34.ntmps - ([Value.slice p n c] : List Value).length)) w = VC_lids p n c w R := by kernel_rfl
  have hb : Try.f34.body = some (Try.f34.body.getD .skip) := by kernel_rfl
  exact calls_of_exec2' (P := Try.prog) (fn := Try.f34) (c := Try.f34.body.getD .skip) (args := [Value.slice p n
    c]) (w := w) (R := R) pur2_ok Try.func34 hb e h

def VC_larticle (id : Nat → Int) (dt : Int) (ar : Int) (gp : Option Addr) (gn : Nat) (gc : Nat) (by_ : Int) (ct : Int) (hp : Option Addr) (hn : Nat) (hc : Nat) (wd : Bool) (w : World) (R : Ending → World → Prop) : Prop :=
 ∀ (n n_1 : Nat) (W : World),
 Loc w.heap.size
 [Blk.mk n_1 42
 [Value.int IntKind.u8 0, Value.int IntKind.u8 0, Value.int IntKind.u8 0, Value.int IntKind.u8 0,
 Value.int IntKind.u8 0, Value.int IntKind.u8 0, Value.int IntKind.u8 0, Value.int IntKind.u8 0,
 Value.int IntKind.u8 0, Value.int IntKind.u8 0, Value.int IntKind.u8 0, Value.int IntKind.u8 0,
 Value.int IntKind.u8 0, Value.int IntKind.u8 0, Value.int IntKind.u8 0, Value.int IntKind.u8 0,
 Value.int IntKind.u8 0, Value.int IntKind.u8 0, Value.int IntKind.u8 0, Value.int IntKind.u8 0,
 Value.int IntKind.u8 0, Value.int IntKind.u8 0, Value.int IntKind.u8 0, Value.int IntKind.u8 0,
 Value.int IntKind.u8 0, Value.int IntKind.u8 0, Value.int IntKind.u8 0, Value.int IntKind.u8 0,
 Value.int IntKind.u8 0, Value.int IntKind.u8 0, Value.int IntKind.u8 0, Value.int IntKind.u8 0,
 Value.int IntKind.i64 0, Value.int IntKind.i64 0, Value.slice none 0 0, Value.int IntKind.i64 0,
 Value.int IntKind.i64 0, Value.slice none 0 0, Value.bool false]
 2,
 Blk.mk n 48
 (arrI IntKind.u8 id 32 0 ++ [Value.int IntKind.i64 dt, Value.int IntKind.i64 ar,
 Value.slice gp gn gc, Value.int IntKind.i64 by_, Value.int IntKind.i64 ct, Value.slice hp hn hc, Value.bool wd])
 2]
 w W →
 ∃ (S : World → Prop),
 S W ∧
 ∃ (f : Nat → Int),
 (∀ (w' : World),
 S w' →
 AtL w' n 0
 (arrI IntKind.u8 f 32 0)) ∧
 ∃ (x : Int),
 (∀ (w' : World), S w' → w'.cell? (Addr.mk n (0 + 32) none) = some (Value.int IntKind.i64 x)) ∧
 ∃ (x_1 : Int),
 (∀ (w' : World), S w' → w'.cell? (Addr.mk n (0 + 33) none) = some (Value.int IntKind.i64 x_1)) ∧
 ∃ (p : Option Addr),
 ∃ (n_2 : Nat),
 ∃ (c : Nat),
 (∀ (w' : World), S w' → w'.cell? (Addr.mk n (0 + 34) none) = some (Value.slice p n_2 c)) ∧
 ∃ (x_2 : Int),
 (∀ (w' : World), S w' → w'.cell? (Addr.mk n (0 + 35) none) = some (Value.int IntKind.i64 x_2)) ∧
 ∃ (x_3 : Int),
 (∀ (w' : World), S w' → w'.cell? (Addr.mk n (0 + 36) none) = some (Value.int IntKind.i64 x_3)) ∧
 ∃ (p_1 : Option Addr),
 ∃ (n_3 : Nat),
 ∃ (c_1 : Nat),
 (∀ (w' : World), S w' → w'.cell? (Addr.mk n (0 + 37) none) = some (Value.slice p_1 n_3 c_1)) ∧
 ∃ (x_4 : Bool),
 (∀ (w' : World), S w' → w'.cell? (Addr.mk n (0 + 38) none) = some (Value.bool x_4)) ∧
 CallsS Try.prog 34 #[Value.slice p_1 n_3 c_1] W fun (e : Ending) (w' : World) =>
 ∃ (p_2 : Option Addr),
 ∃ (n_4 : Nat),
 ∃ (c_2 : Nat),
 e = Ending.returned (Value.slice p_2 n_4 c_2) ∧
 S w' ∧
 WrL w' n_1 0 39 ∧
 ∀ (w1 : World),
 PutB w' n_1 0
 (arrI IntKind.u8 f 32 0 ++ [Value.int IntKind.i64 x,
 Value.int IntKind.i64 x_1, Value.slice p n_2 c, Value.int IntKind.i64 x_2,
 Value.int IntKind.i64 x_3, Value.slice p_2 n_4 c_2, Value.bool x_4])
 w1 →
 KeptL [n] W w1 ∧
 ∃ (f : Nat → Int),
 ∃ (x : Int),
 ∃ (x_5 : Int),
 ∃ (p : Option Addr),
 ∃ (n : Nat),
 ∃ (c : Nat),
 ∃ (x_6 : Int),
 ∃ (x_7 : Int),
 ∃ (p_3 : Option Addr),
 ∃ (n_5 : Nat),
 ∃ (c_3 : Nat),
 ∃ (x_8 : Bool),
 AtL w1 n_1 0
 (arrI IntKind.u8 f 32 0 ++ [Value.int IntKind.i64 x, Value.int IntKind.i64 x_5, Value.slice p n c,
 Value.int IntKind.i64 x_6, Value.int IntKind.i64 x_7,
 Value.slice p_3 n_5 c_3, Value.bool x_8]) ∧
 R
 (Ending.returned
 (Value.agg
 (arrI IntKind.u8 f 32 0 ++ [Value.int IntKind.i64 x, Value.int IntKind.i64 x_5,
 Value.slice p n c, Value.int IntKind.i64 x_6,
 Value.int IntKind.i64 x_7, Value.slice p_3 n_5 c_3, Value.bool x_8]).toArray))
 w1
theorem vc_larticle (id : Nat → Int) (dt : Int) (ar : Int) (gp : Option Addr) (gn : Nat) (gc : Nat) (by_ : Int) (ct : Int) (hp : Option Addr) (hn : Nat) (hc : Nat) (wd : Bool) (w : World) (R : Ending → World → Prop) (h : VC_larticle id dt ar gp gn gc by_ ct hp hn hc wd w R) : Calls Try.prog 16 ([Value.agg
    (arrI IntKind.u8 id 32 0 ++
        [Value.int IntKind.i64 dt, Value.int IntKind.i64 ar, Value.slice gp gn gc, Value.int IntKind.i64 by_,
          Value.int IntKind.i64 ct, Value.slice hp hn hc, Value.bool wd]).toArray] : List Value).toArray w R := by
  have e : execR2 { P := Try.prog, loops := [], pur := pur2, tails := [(1, 14)], joins := [], boxes := [] } Try.f16.results.toList R (Try.f16.body.getD .skip) (initF [Value.agg
    (arrI IntKind.u8 id 32 0 ++
        [Value.int IntKind.i64 dt, Value.int IntKind.i64 ar, Value.slice gp gn gc, Value.int IntKind.i64 by_,
          Value.int IntKind.i64 ct, Value.slice hp hn hc,
          Value.bool
            wd]).toArray] (Try.f16.ntmps - ([Value.agg
    (arrI IntKind.u8 id 32 0 ++
        [Value.int IntKind.i64 dt, Value.int IntKind.i64 ar, Value.slice gp gn gc, Value.int IntKind.i64 by_,
          Value.int IntKind.i64 ct, Value.slice hp hn hc,
          Value.bool
            wd]).toArray] : List Value).length)) w = VC_larticle id dt ar gp gn gc by_ ct hp hn hc wd w R := by kernel_rfl
  have hb : Try.f16.body = some (Try.f16.body.getD .skip) := by kernel_rfl
  exact calls_of_exec2' (P := Try.prog) (fn := Try.f16) (c := Try.f16.body.getD .skip) (args := [Value.agg
    (arrI IntKind.u8 id 32 0 ++
        [Value.int IntKind.i64 dt, Value.int IntKind.i64 ar, Value.slice gp gn gc, Value.int IntKind.i64 by_,
          Value.int IntKind.i64 ct, Value.slice hp hn hc,
          Value.bool wd]).toArray]) (w := w) (R := R) pur2_ok Try.func16 hb e h

def VC_larticles (p : Option Addr) (n : Nat) (c : Nat) (w : World) (R : Ending → World → Prop) : Prop :=
 ∃ (I : List Value → World → Prop),
 ∃ (m : List Value → World → Nat),
 I [Value.int IntKind.i64 0, Value.slice none 0 0] w ∧
 ∀ (x : Int) (p_1 : Option Addr) (n_1 c : Nat) (w' : World),
 I [Value.int IntKind.i64 x, Value.slice p_1 n_1 c] w' →
 bsp (decide (x < (↑n : Int)))
 (nn true p fun (b o : Nat) =>
 (0 ≤ x ∧ x < (↑n : Int)) ∧
 ∃ (f : Nat → Int),
 ∃ (x_1 : Int),
 ∃ (x_2 : Int),
 ∃ (p : Option Addr),
 ∃ (n : Nat),
 ∃ (c_1 : Nat),
 ∃ (x_3 : Int),
 ∃ (x_4 : Int),
 ∃ (p_2 : Option Addr),
 ∃ (n_2 : Nat),
 ∃ (c_2 : Nat),
 ∃ (x_5 : Bool),
 AtL w' b (o + x.toNat * 39)
 (arrI IntKind.u8 f 32 0 ++ [Value.int IntKind.i64 x_1,
 Value.int IntKind.i64 x_2, Value.slice p n c_1, Value.int IntKind.i64 x_3,
 Value.int IntKind.i64 x_4, Value.slice p_2 n_2 c_2, Value.bool x_5]) ∧
 CallsS Try.prog 16
 #[Value.agg
 (arrI IntKind.u8 f 32 0 ++ [Value.int IntKind.i64 x_1,
 Value.int IntKind.i64 x_2, Value.slice p n c_1, Value.int IntKind.i64 x_3,
 Value.int IntKind.i64 x_4, Value.slice p_2 n_2 c_2, Value.bool x_5]).toArray]
 w' fun (e : Ending) (w'_1 : World) =>
 ∃ (f : Nat → Int),
 ∃ (x_6 : Int),
 ∃ (x_7 : Int),
 ∃ (p : Option Addr),
 ∃ (n : Nat),
 ∃ (c_3 : Nat),
 ∃ (x_8 : Int),
 ∃ (x_9 : Int),
 ∃ (p_3 : Option Addr),
 ∃ (n_3 : Nat),
 ∃ (c_4 : Nat),
 ∃ (x_10 : Bool),
 e =
 Ending.returned
 (Value.agg
 (arrI IntKind.u8 f 32 0 ++ [Value.int IntKind.i64 x_6, Value.int IntKind.i64 x_7, Value.slice p n c_3,
 Value.int IntKind.i64 x_8, Value.int IntKind.i64 x_9, Value.slice p_3 n_3 c_4,
 Value.bool x_10]).toArray) ∧
 KeptL [] w' w'_1 ∧
 ∀ (n_4 : Nat) (W : World),
 Loc w.heap.size
 [Blk.mk n_4 42
 (arrI IntKind.u8 f 32 0 ++ [Value.int IntKind.i64 x_6, Value.int IntKind.i64 x_7, Value.slice p n c_3,
 Value.int IntKind.i64 x_8, Value.int IntKind.i64 x_9, Value.slice p_3 n_3 c_4,
 Value.bool x_10])
 2]
 w'_1 W →
 ∃ (base : Nat),
 ∃ (xs : List Value),
 W.ownsRow base 42 39 (Value.slice p_1 n_1 c) n_1 xs ∧
 n_1 + 1 ≤ 9223372036854775807 ∧
 (n_1 + 1) * 120 ≤ 140737488355328 ∧
 base ≤ W.heap.size ∧
 ∀ (p' : Option Addr) (c' : Nat) (w'_2 : World),
 w'_2.ownsRow base 42 39 (Value.slice p' (n_1 + 1) c') (n_1 + 1)
 (xs ++
 (arrI IntKind.u8 f 32 0 ++ [Value.int IntKind.i64 x_6, Value.int IntKind.i64 x_7,
 Value.slice p n c_3, Value.int IntKind.i64 x_8,
 Value.int IntKind.i64 x_9, Value.slice p_3 n_3 c_4, Value.bool x_10])) →
 W.grownBy w'_2 (Value.slice p_1 n_1 c).ownBlock →
 (n_1 + 1 ≤ c → p' = p_1 ∧ c' = c) →
 KeptL [] W w'_2 ∧
 I
 [Value.int IntKind.i64 (IntKind.i64.wrap (x + 1)),
 Value.slice p' (n_1 + 1) c']
 w'_2 ∧
 m
 [Value.int IntKind.i64 (IntKind.i64.wrap (x + 1)),
 Value.slice p' (n_1 + 1) c']
 w'_2 <
 m [Value.int IntKind.i64 x, Value.slice p_1 n_1 c] w')
 (R (Ending.returned (Value.slice p_1 n_1 c)) w')
theorem vc_larticles (p : Option Addr) (n : Nat) (c : Nat) (w : World) (R : Ending → World → Prop) (h : VC_larticles p n c w R) : Calls Try.prog 13 ([Value.slice
    p n c] : List Value).toArray w R := by
  have e : execR2 { P := Try.prog, loops := [(3, [(4, Ck.int IntKind.i64), (3, Ck.slice)])], pur := pur2, tails := [], joins := [], boxes := [] } Try.f13.results.toList R (Try.f13.body.getD .skip) (initF [Value.slice
    p n c] (Try.f13.ntmps - ([Value.slice p n c] : List Value).length)) w = VC_larticles p n c w R := by kernel_rfl
  have hb : Try.f13.body = some (Try.f13.body.getD .skip) := by kernel_rfl
  exact calls_of_exec2' (P := Try.prog) (fn := Try.f13) (c := Try.f13.body.getD .skip) (args := [Value.slice p n
    c]) (w := w) (R := R) pur2_ok Try.func13 hb e h

def VC_lsame (p : Option Addr) (n : Nat) (c : Nat) (q : Option Addr) (k : Nat) (d : Nat) (w : World) (R : Ending → World → Prop) : Prop :=
 bsp ((↑n : Int) != (↑k : Int)) (R (Ending.returned (Value.bool false)) w)
 (∃ (I : List Value → World → Prop),
 ∃ (m : List Value → World → Nat),
 I [Value.int IntKind.i64 0] w ∧
 ∀ (x : Int) (w' : World),
 I [Value.int IntKind.i64 x] w' →
 bsp (decide (x < (↑n : Int)))
 (nn true p fun (b o : Nat) =>
 (0 ≤ x ∧ x < (↑n : Int)) ∧
 ∃ (f : Nat → Int),
 (∀ (W : World),
 Loc w.heap.size [] w' W →
 AtL W b (o + x.toNat * 33)
 (arrI IntKind.u8 f 32 0)) ∧
 nn true q fun (b o : Nat) =>
 (0 ≤ x ∧ x < (↑k : Int)) ∧
 ∃ (f_1 : Nat → Int),
 (∀ (W : World),
 Loc w.heap.size [] w' W →
 AtL W b (o + x.toNat * 33)
 (arrI IntKind.u8 f_1 32 0)) ∧
 ∃ (r : Bool),
 EqP Try.prog 38
 (Value.agg
 (arrI IntKind.u8 f 32 0).toArray)
 (Value.agg
 (arrI IntKind.u8 f_1 32 0).toArray)
 r ∧
 nn (!!r) p fun (b o : Nat) =>
 gimp (!!r) (0 ≤ x ∧ x < (↑n : Int)) ∧
 ∃ (x_1 : Int),
 gimp (!!r)
 (∀ (W : World),
 Loc w.heap.size [] w' W →
 W.cell? (Addr.mk b (o + x.toNat * 33 + 32) none) = some (Value.int IntKind.i64 x_1)) ∧
 nn (!!r) q fun (b o : Nat) =>
 gimp (!!r) (0 ≤ x ∧ x < (↑k : Int)) ∧
 ∃ (x_2 : Int),
 gimp (!!r)
 (∀ (W : World),
 Loc w.heap.size [] w' W →
 W.cell? (Addr.mk b (o + x.toNat * 33 + 32) none) = some (Value.int IntKind.i64 x_2)) ∧
 bsp (!r || x_1 != x_2)
 (∀ (W : World), Loc w.heap.size [] w' W → R (Ending.returned (Value.bool false)) W)
 (∀ (W : World),
 Loc w.heap.size [] w' W →
 I [Value.int IntKind.i64 (IntKind.i64.wrap (x + 1))] W ∧
 m [Value.int IntKind.i64 (IntKind.i64.wrap (x + 1))] W < m [Value.int IntKind.i64 x] w'))
 (R (Ending.returned (Value.bool true)) w'))
theorem vc_lsame (p : Option Addr) (n : Nat) (c : Nat) (q : Option Addr) (k : Nat) (d : Nat) (w : World) (R : Ending → World → Prop) (h : VC_lsame p n c q k d w R) : Calls Try.prog 24 ([Value.slice
    p n c,
  Value.slice q k d] : List Value).toArray w R := by
  have e : execR2 { P := Try.prog, loops := [(4, [(5, Ck.int IntKind.i64)])], pur := pur2, tails := [], joins := [], boxes := [] } Try.f24.results.toList R (Try.f24.body.getD .skip) (initF [Value.slice
    p n c,
  Value.slice q k
    d] (Try.f24.ntmps - ([Value.slice p n c,
  Value.slice q k d] : List Value).length)) w = VC_lsame p n c q k d w R := by kernel_rfl
  have hb : Try.f24.body = some (Try.f24.body.getD .skip) := by kernel_rfl
  exact calls_of_exec2' (P := Try.prog) (fn := Try.f24) (c := Try.f24.body.getD .skip) (args := [Value.slice p n c,
  Value.slice q k d]) (w := w) (R := R) pur2_ok Try.func24 hb e h

def VC_lhere (p : Option Addr) (n : Nat) (c : Nat) (f : Nat → Int) (w : World) (R : Ending → World → Prop) : Prop :=
 ∀ (n_1 : Nat) (W : World),
 Loc w.heap.size
 [Blk.mk n_1 38
 (arrI IntKind.u8 f 32 0)
 2]
 w W →
 ∃ (I : List Value → World → Prop),
 ∃ (m : List Value → World → Nat),
 I [Value.int IntKind.i64 0] W ∧
 ∀ (x : Int) (w' : World),
 I [Value.int IntKind.i64 x] w' →
 Loc w.heap.size
 [Blk.mk n_1 38
 (arrI IntKind.u8 f 32 0)
 0]
 w' w' →
 bsp (decide (x < (↑n : Int)))
 (nn true p fun (b o : Nat) =>
 (0 ≤ x ∧ x < (↑n : Int)) ∧
 ∃ (f_1 : Nat → Int),
 (∀ (W : World),
 Loc w.heap.size
 [Blk.mk n_1 38
 (arrI IntKind.u8 f 32 0)
 0]
 w' W →
 AtL W b (o + x.toNat * 39)
 (arrI IntKind.u8 f_1 32 0)) ∧
 ∃ (r : Bool),
 EqP Try.prog 38
 (Value.agg
 (arrI IntKind.u8 f_1 32 0).toArray)
 (Value.agg
 (arrI IntKind.u8 f 32 0).toArray)
 r ∧
 bsp r
 (∀ (W : World),
 Loc w.heap.size
 [Blk.mk n_1 38
 (arrI IntKind.u8 f 32 0)
 0]
 w' W →
 R (Ending.returned (Value.bool true)) W)
 (∀ (W : World),
 Loc w.heap.size
 [Blk.mk n_1 38
 (arrI IntKind.u8 f 32 0)
 0]
 w' W →
 I [Value.int IntKind.i64 (IntKind.i64.wrap (x + 1))] W ∧
 m [Value.int IntKind.i64 (IntKind.i64.wrap (x + 1))] W < m [Value.int IntKind.i64 x] w'))
 (R (Ending.returned (Value.bool false)) w')
theorem vc_lhere (p : Option Addr) (n : Nat) (c : Nat) (f : Nat → Int) (w : World) (R : Ending → World → Prop) (h : VC_lhere p n c f w R) : Calls Try.prog 26 ([Value.slice
    p n c,
  Value.agg (arrI IntKind.u8 f 32 0).toArray] : List Value).toArray w R := by
  have e : execR2 { P := Try.prog, loops := [(2, [(5, Ck.int IntKind.i64)])], pur := pur2, tails := [], joins := [], boxes := [] } Try.f26.results.toList R (Try.f26.body.getD .skip) (initF [Value.slice
    p n c,
  Value.agg
    (arrI IntKind.u8 f 32
        0).toArray] (Try.f26.ntmps - ([Value.slice p n c,
  Value.agg (arrI IntKind.u8 f 32 0).toArray] : List Value).length)) w = VC_lhere p n c f w R := by kernel_rfl
  have hb : Try.f26.body = some (Try.f26.body.getD .skip) := by kernel_rfl
  exact calls_of_exec2' (P := Try.prog) (fn := Try.f26) (c := Try.f26.body.getD .skip) (args := [Value.slice p n c,
  Value.agg (arrI IntKind.u8 f 32 0).toArray]) (w := w) (R := R) pur2_ok Try.func26 hb e h

def VC_lodd (f : Nat → Int) (w : World) (R : Ending → World → Prop) : Prop :=
 ∀ (n : Nat) (W : World),
 Loc w.heap.size
 [Blk.mk n 38
 (arrI IntKind.u8 f 32 0)
 2]
 w W →
 R (Ending.returned (Value.bool ((f 0).tmod 2 == 1))) W
theorem vc_lodd (f : Nat → Int) (w : World) (R : Ending → World → Prop) (h : VC_lodd f w R) : Calls Try.prog 17 ([Value.agg
    (arrI IntKind.u8 f 32 0).toArray] : List Value).toArray w R := by
  have e : execR2 { P := Try.prog, loops := [], pur := pur2, tails := [], joins := [], boxes := [] } Try.f17.results.toList R (Try.f17.body.getD .skip) (initF [Value.agg
    (arrI IntKind.u8 f 32
        0).toArray] (Try.f17.ntmps - ([Value.agg
    (arrI IntKind.u8 f 32 0).toArray] : List Value).length)) w = VC_lodd f w R := by kernel_rfl
  have hb : Try.f17.body = some (Try.f17.body.getD .skip) := by kernel_rfl
  exact calls_of_exec2' (P := Try.prog) (fn := Try.f17) (c := Try.f17.body.getD .skip) (args := [Value.agg
    (arrI IntKind.u8 f 32 0).toArray]) (w := w) (R := R) pur2_ok Try.func17 hb e h

end Go.Proofs.Ytmjanmffnblcoaa

/- Chapter 42, the statements' helpers: the contracts of small, rules, ids, article, articles, same, here, odd. No condition but sizes. -/
namespace Go.Proofs.Ytmjanmffnblcoaa
open Go.RowKit Go.Sort Go.Maps

def smA (x : AX) : Bool := decide (x.gs.length ≤ 5) && decide (x.hs.length ≤ 5) && x.gs.all fun z => decide (z.size ≤ 60)
def smallB (L : List Rl) (l : List AX) : Bool := (L.all fun r => decide (r.pat.size ≤ 100)) && l.all smA && (decide (L.length ≤ 10) && decide (l.length ≤ 12))
theorem all_hit {α : Type} {f : α → Bool} {l : List α} {x : α} (h : x ∈ l) (hf : f x = false) : l.all f = false := List.all_eq_false.2 ⟨x, h, by simp [hf]⟩
theorem all_full {α : Type} {f : α → Bool} {l : List α} (h : ∀ j x, j < l.length → l[j]? = some x → f x = true) : l.all f = true := List.all_eq_true.2 fun x hx => by
  obtain ⟨j, hj, e⟩ := List.getElem_of_mem hx
  exact h j x hj (by rw [List.getElem?_eq_getElem hj, e])
theorem grow_all {α : Type} {P : α → Prop} {l : List α} {i : Nat} {y : α} (h : ∀ j x, j < i → l[j]? = some x → P x) (hy : l[i]? = some y) (hp : P y) : ∀ j x, j < i + 1 → l[j]? = some x → P x := fun j x hj hx => by
  rcases Nat.lt_or_ge j i with h' | h'
  · exact h j x h' hx
  · have : j = i := by omega
    subst this
    rw [hy] at hx
    simp at hx
    subst hx
    exact hp
set_option maxHeartbeats 1000000 in
theorem lsmall_any (L : List Rl) (p : Option Addr) (c : Nat) (l : List AX) (q : Option Addr) (d : Nat) (w : World) (hR : RowA rlC 3 w p L) (hA : RowA axC 39 w q l) (hX : ∀ x ∈ l, StrP w x.gp x.gs) (hL : L.length ≤ 4611686018427387904) (hl : l.length ≤ 4611686018427387904) :
    Calls Try.prog 11 #[.slice p L.length c, .slice q l.length d] w fun e w' => e = .returned (.bool (smallB L l)) ∧ K0 w w' := by
  refine vc_lsmall p L.length c q l.length d w _ ?_
  refine ⟨fun vs w' => ∃ i : Nat, vs = [.int .i64 (i : Int)] ∧ i ≤ L.length ∧ (∀ j r, j < i → L[j]? = some r → decide (r.pat.size ≤ 100) = true) ∧ w' = w,
    fun vs _ => (match vs with | .int _ x :: _ => L.length - x.toNat | _ => 0), ⟨0, rfl, by omega, (fun j r h => by omega), rfl⟩, ?_⟩
  rintro x w1 ⟨i, hv, hi, hall, rfl⟩
  simp only [List.cons.injEq, Value.int.injEq, true_and, and_true] at hv
  subst hv
  refine bsp_intro (fun hlt => ?_) (fun hge => ?_)
  · have hlt : i < L.length := by simp at hlt; omega
    obtain ⟨r, b, o, hr, hp, hat⟩ := hR.get hlt
    refine nn_eq hp ⟨by omega, r.pat, by rw [Int.toNat_natCast]; simpa using hat.cell (j := 0) rfl, bsp_intro (fun h => ?_) (fun h => ?_)⟩
    · have h : decide (r.pat.size ≤ 100) = false := by simp at h ⊢; omega
      refine ⟨?_, .refl _ _⟩
      unfold smallB
      rw [all_hit (f := fun r : Rl => decide (r.pat.size ≤ 100)) (List.mem_of_getElem? hr) h]; rfl
    · have h : decide (r.pat.size ≤ 100) = true := by simp at h ⊢; omega
      exact ⟨⟨i + 1, by rw [inc64 (by omega)], hlt, grow_all hall hr h, rfl⟩, by rw [inc64 (by omega)]; simp only [Int.toNat_natCast]; omega⟩
  have hi : i = L.length := by simp at hge; omega
  subst hi
  have hpat := all_full hall
  refine ⟨fun vs w' => ∃ i : Nat, vs = [.int .i64 (i : Int)] ∧ i ≤ l.length ∧ (∀ j r, j < i → l[j]? = some r → smA r = true) ∧ w' = w1,
    fun vs _ => (match vs with | .int _ x :: _ => l.length - x.toNat | _ => 0), ⟨0, rfl, by omega, (fun j r h => by omega), rfl⟩, ?_⟩
  rintro x w2 ⟨i, hv, hi, hall2, rfl⟩
  simp only [List.cons.injEq, Value.int.injEq, true_and, and_true] at hv
  subst hv
  refine bsp_intro (fun hlt => ?_) (fun hge => ?_)
  · have hlt : i < l.length := by simp at hlt; omega
    obtain ⟨y, b, o, hy, hq, hat⟩ := hA.get hlt
    have hyl := List.mem_of_getElem? hy
    have no : smA y = false → smallB L l = false := fun h => by
      unfold smallB
      rw [all_hit hyl h, Bool.and_false]; rfl
    have cg : w2.cell? ⟨b, o + i * 39 + 34, none⟩ = some (.slice y.gp y.gs.length y.gc) := hat.cell (j := 34) rfl
    have ch : w2.cell? ⟨b, o + i * 39 + 37, none⟩ = some (.slice y.hp y.hs.length y.hc) := hat.cell (j := 37) rfl
    refine nn_eq hq ⟨by omega, y.gp, y.gs.length, y.gc, by rw [Int.toNat_natCast]; exact cg, nn_eq hq ⟨gimp_intro fun _ => by omega, y.hp, y.hs.length, y.hc, gimp_intro fun _ => by rw [Int.toNat_natCast]; exact ch, bsp_intro (fun h => ?_) (fun h => ?_)⟩⟩
    · refine ⟨?_, .refl _ _⟩
      rw [no]
      unfold smA
      simp at h
      rcases h with h | h
      · rw [show decide (y.gs.length ≤ 5) = false by simp; omega]; rfl
      · rw [show decide (y.hs.length ≤ 5) = false by simp; omega, Bool.and_false]; rfl
    · have hg5 : y.gs.length ≤ 5 ∧ y.hs.length ≤ 5 := by simp at h; omega
      refine ⟨fun vs w' => ∃ a : Nat, vs = [.int .i64 (a : Int)] ∧ a ≤ y.gs.length ∧ (∀ j z, j < a → y.gs[j]? = some z → decide (z.size ≤ 60) = true) ∧ w' = w2,
        fun vs _ => (match vs with | .int _ x :: _ => y.gs.length - x.toNat | _ => 0), ⟨0, rfl, by omega, (fun j r h => by omega), rfl⟩, ?_⟩
      rintro x w3 ⟨a, hv, ha, hall3, rfl⟩
      simp only [List.cons.injEq, Value.int.injEq, true_and, and_true] at hv
      subst hv
      refine nn_eq hq ⟨by omega, y.gp, y.gs.length, y.gc, by rw [Int.toNat_natCast]; exact cg, bsp_intro (fun hlt2 => ?_) (fun hge2 => ?_)⟩
      · have hlt2 : a < y.gs.length := by simp at hlt2; omega
        obtain ⟨z, b2, o2, hzi, hgp, hc⟩ := (hX y hyl).get hlt2
        refine nn_eq hq ⟨by omega, y.gp, y.gs.length, y.gc, by rw [Int.toNat_natCast]; exact cg, nn_eq hgp ⟨by omega, z, by rw [Int.toNat_natCast]; exact hc, bsp_intro (fun h => ?_) (fun h => ?_)⟩⟩
        · refine ⟨?_, .refl _ _⟩
          rw [no]
          unfold smA
          rw [all_hit (f := fun z : ByteArray => decide (z.size ≤ 60)) (List.mem_of_getElem? hzi) (by simp at h ⊢; omega), Bool.and_false]
        · have h : decide (z.size ≤ 60) = true := by simp at h ⊢; omega
          exact ⟨⟨a + 1, by rw [inc64 (by omega)], hlt2, grow_all hall3 hzi h, rfl⟩, by rw [inc64 (by omega)]; simp only [Int.toNat_natCast]; omega⟩
      · have ha : a = y.gs.length := by simp at hge2; omega
        subst ha
        have hsm : smA y = true := by
          unfold smA
          rw [all_full hall3]
          simp [hg5.1, hg5.2]
        exact ⟨⟨i + 1, by rw [inc64 (by omega)], hlt, grow_all hall2 hy hsm, rfl⟩, by rw [inc64 (by omega)]; simp only [Int.toNat_natCast]; omega⟩
  · have hi : i = l.length := by simp at hge; omega
    subst hi
    refine ⟨?_, .refl _ _⟩
    unfold smallB
    rw [hpat, all_full hall2, Bool.true_and, Bool.true_and]
    congr 3
    · simp; omega
    · simp; omega
theorem rlC_length (r : Rl) : (rlC r).length = 3 := rfl
theorem take_len {α : Type} {l : List α} {i : Nat} (h : i ≤ l.length) : (l.take i).length = i := by rw [List.length_take]; omega
theorem lrules_any (L : List Rl) (p : Option Addr) (c : Nat) (w : World) (hR : RowA rlC 3 w p L) (hl : L.length ≤ 1000) :
    Calls Try.prog 12 #[.slice p L.length c] w fun e w' => ∃ (p' : Option Addr) (c' : Nat), e = .returned (.slice p' L.length c') ∧ w'.ownsRow w.heap.size 68 3 (.slice p' L.length c') L.length (L.flatMap rlC) ∧ K0 w w' := by
  refine vc_lrules p L.length c w _ ?_
  refine ⟨fun vs w' => ∃ (i : Nat) (p' : Option Addr) (c' : Nat), vs = [.int .i64 (i : Int), .slice p' i c'] ∧ i ≤ L.length ∧ w'.ownsRow w.heap.size 68 3 (.slice p' i c') i ((L.take i).flatMap rlC) ∧ K0 w w',
    fun vs _ => (match vs with | .int _ x :: _ => L.length - x.toNat | _ => 0), ⟨0, none, 0, rfl, by omega, World.ownsRow_nil _ _ _ _, .refl _ _⟩, ?_⟩
  rintro x p1 n1 c1 w1 ⟨i, p1', c1', hv, hi, ho, k1⟩
  simp only [List.cons.injEq, Value.int.injEq, Value.slice.injEq, true_and, and_true] at hv
  obtain ⟨rfl, rfl, rfl, rfl⟩ := hv
  refine bsp_intro (fun hlt => ?_) (fun hge => ?_)
  · have hlt : n1 < L.length := by simp at hlt; omega
    intro W2 hW2
    have k2 : K0 w1 W2 := hW2.kk rfl
    obtain ⟨r, b, o, hr, hp, hat⟩ := (hR.k0 (k1.trans k2)).get hlt
    refine ⟨fun wx => K0 W2 wx, .refl _ _, nn_eq hp ⟨by omega, r.pat, fun wx kx => ?_, nn_eq hp ⟨by omega, r.lo, fun wx kx => ?_, nn_eq hp ⟨by omega, r.hi, fun wx kx => ?_, fun n3 w3 hn3 => ?_⟩⟩⟩⟩
    · rw [Int.toNat_natCast]; simpa using (hat.k0 kx).cell (j := 0) rfl
    · rw [Int.toNat_natCast]; exact (hat.k0 kx).cell (j := 1) rfl
    · rw [Int.toNat_natCast]; exact (hat.k0 kx).cell (j := 2) rfl
    have k3 : K0 W2 w3 := hn3.kp _
    refine app1 (owns_kp ho k2 (fun _ _ h => h)) (Nat.le_trans k1.size k2.size) hn3 rfl (by intro u hu; simp at hu; rcases hu with rfl | rfl | rfl <;> rfl) (by omega) (by omega) (fun p'' c'' w4 ho4 hk4 _ => ?_)
    have hoo := owns_kp ho k2 (fun _ _ h => h)
    have kk : K0 w w4 := (k1.trans k2).fresh hk4 (fun j hj e => by have := own_ge hoo e; omega)
    refine ⟨.of_kp hk4 (fun z hz => by cases hz), ⟨n1 + 1, p'', c'', by rw [inc64 (by omega)], hlt, ?_, kk⟩, by rw [inc64 (by omega)]; simp only [Int.toNat_natCast]; omega⟩
    rw [take_snoc hr, List.flatMap_append]
    simpa [rlC] using ho4
  · have hi : n1 = L.length := by simp at hge; omega
    subst hi
    rw [List.take_length] at ho
    exact ⟨p1, c1, rfl, ho, k1⟩
theorem lids_any (l : List (Nat → Int)) (p : Option Addr) (c : Nat) (w : World) (hR : RowA idL 32 w p l) (hl : l.length ≤ 1000) :
    Calls Try.prog 34 #[.slice p l.length c] w fun e w' => ∃ (p' : Option Addr) (c' : Nat), e = .returned (.slice p' l.length c') ∧ w'.ownsRow w.heap.size 38 32 (.slice p' l.length c') l.length (l.flatMap idL) ∧ K0 w w' := by
  refine vc_lids p l.length c w _ ?_
  refine ⟨fun vs w' => ∃ (i : Nat) (p' : Option Addr) (c' : Nat), vs = [.int .i64 (i : Int), .slice p' i c'] ∧ i ≤ l.length ∧ w'.ownsRow w.heap.size 38 32 (.slice p' i c') i ((l.take i).flatMap idL) ∧ K0 w w',
    fun vs _ => (match vs with | .int _ x :: _ => l.length - x.toNat | _ => 0), ⟨0, none, 0, rfl, by omega, World.ownsRow_nil _ _ _ _, .refl _ _⟩, ?_⟩
  rintro x p1 n1 c1 w1 ⟨i, p1', c1', hv, hi, ho, k1⟩
  simp only [List.cons.injEq, Value.int.injEq, Value.slice.injEq, true_and, and_true] at hv
  obtain ⟨rfl, rfl, rfl, rfl⟩ := hv
  refine bsp_intro (fun hlt => ?_) (fun hge => ?_)
  · have hlt : n1 < l.length := by simp at hlt; omega
    obtain ⟨y, b, o, hy, hp, hat⟩ := (hR.k0 k1).get hlt
    refine nn_eq hp ⟨by omega, y, by rw [Int.toNat_natCast]; exact hat, fun n3 W3 hW3 => ?_⟩
    have k3 : K0 w1 W3 := hW3.kk rfl
    have hoo := owns_kp ho k3 (fun _ _ h => h)
    refine ⟨w.heap.size, _, hoo, by omega, by omega, Nat.le_trans k1.size k3.size, fun p'' c'' w4 ho4 hg4 _ => ?_⟩
    have hk4 := kp_grown hg4
    have kk : K0 w w4 := (k1.trans k3).fresh hk4 (fun j hj e => by have := own_ge hoo e; omega)
    refine ⟨.of_kp hk4 (fun z hz => by cases hz), ⟨n1 + 1, p'', c'', by rw [inc64 (by omega)], hlt, ?_, kk⟩, by rw [inc64 (by omega)]; simp only [Int.toNat_natCast]; omega⟩
    rw [take_snoc hy, List.flatMap_append]
    rw [show [y].flatMap idL = arrI .u8 y 32 0 by simp]
    exact ho4
  · have hi : n1 = l.length := by simp at hge; omega
    subst hi
    rw [List.take_length] at ho
    exact ⟨p1, c1, rfl, ho, k1⟩
/-- An article, its Holds elsewhere. -/
def AX.mv (x : AX) (p : Option Addr) (c : Nat) : AX := { x with hp := p, hc := c }
def AX.core (x : AX) : AX := { x with hp := none, hc := 0, gp := none, gc := 0 }
theorem larticle_any (x : AX) (w : World) (hR : RowA idL 32 w x.hp x.hs) (hl : x.hs.length ≤ 1000) :
    Calls Try.prog 16 #[.agg (axC x).toArray] w fun e w' => ∃ (p' : Option Addr) (c' : Nat), e = .returned (.agg (axC (x.mv p' c')).toArray) ∧ w'.ownsRow w.heap.size 38 32 (.slice p' x.hs.length c') x.hs.length (x.hs.flatMap idL) ∧ K0 w w' := by
  refine vc_larticle x.id x.dt x.ar x.gp x.gs.length x.gc x.by_ x.ct x.hp x.hs.length x.hc x.wd w _ ?_
  intro n n1 W hW
  have kW : K0 w W := hW.kk rfl
  have hx := hW.cells 1 rfl
  have hb1 := hW.cells 0 rfl
  have g1 : w.heap.size ≤ n1 := hW.fresh 0 rfl rfl
  have hne : n ≠ n1 := hW.apart 1 0 rfl rfl (by decide)
  have at_ : ∀ {wx : World}, K0 W wx → AtL wx n 0 (axC x) := fun hk => AtL_block (hk.blk hx (fun h => h)) rfl
  refine ⟨fun wx => K0 W wx, .refl _ _, x.id, fun wx kx => (at_ kx).pre, x.dt, fun wx kx => (at_ kx).cell (j := 32) rfl, x.ar, fun wx kx => (at_ kx).cell (j := 33) rfl, x.gp, x.gs.length, x.gc, fun wx kx => (at_ kx).cell (j := 34) rfl, x.by_, fun wx kx => (at_ kx).cell (j := 35) rfl, x.ct, fun wx kx => (at_ kx).cell (j := 36) rfl, x.hp, x.hs.length, x.hc, fun wx kx => (at_ kx).cell (j := 37) rfl, x.wd, fun wx kx => (at_ kx).cell (j := 38) rfl, ?_⟩
  refine ⟨(lids_any x.hs x.hp x.hc W (hR.k0 kW) hl).mono fun e w1 ⟨p', c', he, hrow, k1⟩ => ⟨_, _, _, he, k1, ?_⟩⟩
  have hb1' := k1.blk hb1 (fun h => h)
  refine ⟨WrL_block hb1' (Nat.le_refl 39), fun w2 hp2 => ⟨.of_kp (M := (· = n1)) ((k1.mono fun _ _ h => h.elim).trans hp2.kp) (fun z hz e => by simp at hz; subst hz; exact hne e), _, _, _, _, _, _, _, _, _, _, _, _, AtL_block (hp2.full hb1' rfl) rfl, p', c', rfl, ?_, put_k0 (kW.trans k1) hp2 g1⟩⟩
  refine own_base (owns_kp hrow hp2.kp (fun k hk e => ?_)) kW.size
  have h1 := own_ge hrow hk
  have h2 : n1 < W.heap.size := block_lt hb1
  subst e
  exact absurd h1 (by omega)
/-- Articles whose Groups lay there and whose Holds are new. -/
structure AXO (w0 w : World) (x : AX) : Prop where
  gs : StrP w0 x.gp x.gs
  hs : w.ownsRow w0.heap.size 38 32 (.slice x.hp x.hs.length x.hc) x.hs.length (x.hs.flatMap idL)
theorem AXO.r {w0 w : World} {x : AX} (h : AXO w0 w x) (hk : K0 w0 w) : AXR w x := ⟨h.gs.k0 hk, RowA.own h.hs idL_length (by decide)⟩
theorem AXO.k {w0 w w' : World} {x : AX} (h : AXO w0 w x) (hk : K0 w w') : AXO w0 w' x := ⟨h.gs, owns_kp h.hs hk (fun _ _ h => h)⟩
theorem core_pl (x : AX) : x.core.pl = x.pl := rfl
set_option maxHeartbeats 1000000 in
theorem larticles_any (l : List AX) (p : Option Addr) (c : Nat) (w : World) (hA : RowA axC 39 w p l) (hX : ∀ x ∈ l, AXR w x) (hh : ∀ x ∈ l, x.hs.length ≤ 1000) (hl : l.length ≤ 1000) :
    Calls Try.prog 13 #[.slice p l.length c] w fun e w' => ∃ (l' : List AX) (p' : Option Addr) (c' : Nat), e = .returned (.slice p' l'.length c') ∧ l'.map AX.core = l.map AX.core ∧ w'.ownsRow w.heap.size 42 39 (.slice p' l'.length c') l'.length (l'.flatMap axC) ∧ (∀ x ∈ l', AXO w w' x) ∧ K0 w w' := by
  refine vc_larticles p l.length c w _ ?_
  refine ⟨fun vs w' => ∃ (i : Nat) (l' : List AX) (p' : Option Addr) (c' : Nat), vs = [.int .i64 (i : Int), .slice p' l'.length c'] ∧ l'.length = i ∧ i ≤ l.length ∧ l'.map AX.core = (l.take i).map AX.core ∧ w'.ownsRow w.heap.size 42 39 (.slice p' l'.length c') l'.length (l'.flatMap axC) ∧ (∀ x ∈ l', AXO w w' x) ∧ K0 w w',
    fun vs _ => (match vs with | .int _ x :: _ => l.length - x.toNat | _ => 0), ⟨0, [], none, 0, rfl, rfl, by omega, rfl, World.ownsRow_nil _ _ _ _, (fun x hx => by cases hx), .refl _ _⟩, ?_⟩
  rintro x p1 n1 c1 w1 ⟨i, l', p1', c1', hv, hli, hi, hcore, ho, hO, k1⟩
  simp only [List.cons.injEq, Value.int.injEq, Value.slice.injEq, true_and, and_true] at hv
  obtain ⟨rfl, rfl, rfl, rfl⟩ := hv
  refine bsp_intro (fun hlt => ?_) (fun hge => ?_)
  · have hlt : i < l.length := by simp at hlt; omega
    obtain ⟨y, b, o, hy, hp, hat⟩ := (hA.k0 k1).get hlt
    have hyl := List.mem_of_getElem? hy
    refine nn_eq hp ⟨by omega, y.id, y.dt, y.ar, y.gp, y.gs.length, y.gc, y.by_, y.ct, y.hp, y.hs.length, y.hc, y.wd, by rw [Int.toNat_natCast]; exact hat, ?_⟩
    refine ⟨(larticle_any y w1 ((hX y hyl).hs.k0 k1) (hh y hyl)).mono fun e w2 ⟨p2, c2, he, hown, k2⟩ => ?_⟩
    refine ⟨y.id, y.dt, y.ar, y.gp, y.gs.length, y.gc, y.by_, y.ct, p2, y.hs.length, c2, y.wd, he, .of_k0 k2, fun n4 W4 hW4 => ?_⟩
    have k4 : K0 w2 W4 := hW4.kk rfl
    have hoo := owns_kp (owns_kp ho k2 (fun _ _ h => h)) k4 (fun _ _ h => h)
    have kw4 : K0 w W4 := (k1.trans k2).trans k4
    refine ⟨w.heap.size, _, hoo, by omega, by omega, kw4.size, fun p5 c5 w5 ho5 hg5 _ => ?_⟩
    have k5 := kp_grown hg5
    have kw5 : K0 w w5 := kw4.fresh k5 (fun j hj e => by have := own_ge hoo e; omega)
    have keep : ∀ {x : AX}, AXO w W4 x → AXO w w5 x := fun {x} h => ⟨h.gs, owns_kp h.hs k5 (fun j hj e => by
      obtain ⟨cc, hcc⟩ := own_type h.hs hj
      exact own_not hoo hcc rfl e)⟩
    refine ⟨.of_kp k5 (fun z hz => by cases hz), ⟨i + 1, l' ++ [y.mv p2 c2], p5, c5, by rw [inc64 (by omega)]; simp, by simp [hli], hlt, ?_, ?_, fun x hx => ?_, kw5⟩, by rw [inc64 (by omega)]; simp only [Int.toNat_natCast]; omega⟩
    · rw [List.map_append, hcore, take_snoc hy, List.map_append]; rfl
    · rw [List.flatMap_append, show (l' ++ [y.mv p2 c2]).length = l'.length + 1 by simp]
      rw [show [y.mv p2 c2].flatMap axC = axC (y.mv p2 c2) by simp]
      exact ho5
    · rcases List.mem_append.1 hx with h | h
      · exact keep (((hO x h).k k2).k k4)
      · simp at h
        subst h
        exact keep ⟨(hX y hyl).gs, own_base (owns_kp hown k4 (fun _ _ h => h)) k1.size⟩
  · have hi : i = l.length := by simp at hge; omega
    rw [hi, List.take_length] at hcore
    exact ⟨l', p1, c1, rfl, hcore, ho, hO, k1⟩
theorem idEq4 {l l' : List Int} (hl : l.length = 32) (hb : ∀ x ∈ l, 0 ≤ x ∧ x ≤ 255) (hl' : l'.length = 32) (hb' : ∀ x ∈ l', 0 ≤ x ∧ x ≤ 255) : EqP Try.prog 38 (byA l) (byA l') (decide (l = l')) := idEq hl hb hl' hb'
theorem whyC_cell {w : World} {b o : Nat} {r : (Nat → Int) × Nat} (h : AtL w b o (whyC r)) : AtL w b o (arrI .u8 r.1 32 0) ∧ w.cell? ⟨b, o + 32, none⟩ = some (.int .i64 (r.2 : Int)) := ⟨h.pre, h.cell (j := 32) rfl⟩
/-- Plans that agree are the same. -/
theorem lsame_any (R S : List ((Nat → Int) × Nat)) (p : Option Addr) (c : Nat) (q : Option Addr) (d : Nat) (w : World) (hR : RowA whyC 33 w p R) (hS : RowA whyC 33 w q S) (he : R.map whyS = S.map whyS) (hRb : ∀ r ∈ R, ∀ j, 0 ≤ r.1 j ∧ r.1 j ≤ 255) (hSb : ∀ r ∈ S, ∀ j, 0 ≤ r.1 j ∧ r.1 j ≤ 255) (hl : R.length ≤ 1000) :
    Calls Try.prog 24 #[.slice p R.length c, .slice q S.length d] w fun e w' => e = .returned (.bool true) ∧ K0 w w' := by
  have hlen : R.length = S.length := by have := congrArg List.length he; simpa using this
  refine vc_lsame p R.length c q S.length d w _ ?_
  refine bsp_intro (fun h => by exfalso; simp [hlen] at h) (fun _ => ?_)
  refine count1 R.length (by omega) (fun k wx => K0 w wx) (.refl _ _) ?_
  intro I m i w1 hi k1 next
  refine bsp_intro (fun hlt => ?_) (fun hge => ⟨rfl, k1⟩)
  have hlt : i < R.length := by simp at hlt; omega
  obtain ⟨r, b, o, hr, hp, hat⟩ := (hR.k0 k1).get hlt
  obtain ⟨s, b', o', hs, hq, hat'⟩ := (hS.k0 k1).get (k := i) (by omega)
  have hrs : whyS r = whyS s := by
    have h1 : (R.map whyS)[i]? = some (whyS r) := by rw [List.getElem?_map, hr]; rfl
    rw [he, List.getElem?_map, hs] at h1
    simpa using h1.symm
  have hid : idI r.1 = idI s.1 := congrArg (·.1) hrs
  have hk : r.2 = s.2 := congrArg (·.2) hrs
  have hE := idEq4 (idI_len r.1) (idI_bd (hRb r (List.mem_of_getElem? hr))) (idI_len s.1) (idI_bd (hSb s (List.mem_of_getElem? hs)))
  rw [show decide (idI r.1 = idI s.1) = true by simp [hid]] at hE
  refine nn_eq hp ⟨by omega, r.1, fun W hW => by rw [Int.toNat_natCast]; exact (hat.k0 (hW.kk rfl)).pre, nn_eq hq ⟨by omega, s.1, fun W hW => by rw [Int.toNat_natCast]; exact (hat'.k0 (hW.kk rfl)).pre, true, hE, nn_eq hp ⟨gimp_intro fun _ => by omega, (r.2 : Int), gimp_intro fun _ W hW => by rw [Int.toNat_natCast]; exact (hat.k0 (hW.kk rfl)).cell (j := 32) rfl, nn_eq hq ⟨gimp_intro fun _ => by omega, (s.2 : Int), gimp_intro fun _ W hW => by rw [Int.toNat_natCast]; exact (hat'.k0 (hW.kk rfl)).cell (j := 32) rfl, ?_⟩⟩⟩⟩
  rw [hk]
  refine bsp_intro (fun h => by simp at h) (fun _ W hW => next hlt W (k1.trans (hW.kk rfl)))
theorem lhere_any (l : List AX) (p : Option Addr) (c : Nat) (f : Nat → Int) (w : World) (hR : RowA axC 39 w p l) (hl : l.length ≤ 1048576) (hb : ∀ x ∈ l, ∀ j, 0 ≤ x.id j ∧ x.id j ≤ 255) (hf : ∀ j, 0 ≤ f j ∧ f j ≤ 255) :
    Calls Try.prog 26 #[.slice p l.length c, .agg (arrI .u8 f 32 0).toArray] w fun e w' => e = .returned (.bool (hereB (l.map AX.pl) (idI f))) ∧ K0 w w' := by
  refine vc_lhere p l.length c f w _ ?_
  intro n1 W hW
  have kW : K0 w W := hW.kk rfl
  refine ⟨fun vs w' => ∃ i : Nat, vs = [.int .i64 (i : Int)] ∧ i ≤ l.length ∧ (∀ j z, j < i → l[j]? = some z → (fun y : AX => decide (idI y.id = idI f)) z = false) ∧ K0 w w',
    fun vs _ => (match vs with | .int _ x :: _ => l.length - x.toNat | _ => 0), ⟨0, rfl, by omega, (fun j z h => by omega), kW⟩, ?_⟩
  rintro x w1 ⟨i, hv, hi, hno, k1⟩ hL1
  simp only [List.cons.injEq, Value.int.injEq, true_and, and_true] at hv
  subst hv
  rw [← fiR_here]
  refine bsp_intro (fun hlt => ?_) (fun hge => ?_)
  · have hlt : i < l.length := by simp at hlt; omega
    obtain ⟨y, b, o, hy, rfl, hat⟩ := (hR.k0 k1).get hlt
    show (0 ≤ (i : Int) ∧ (i : Int) < (l.length : Int)) ∧ _
    rw [Int.toNat_natCast]
    refine ⟨by omega, y.id, fun W2 hW2 => (hat.k0 (hW2.kk rfl)).pre, decide (idI y.id = idI f), idEq4 (idI_len _) (idI_bd (hb y (List.mem_of_getElem? hy))) (idI_len _) (idI_bd hf), bsp_intro (fun hg W2 hW2 => ?_) (fun hg W2 hW2 => ?_)⟩
    · exact ⟨by unfold fiR; rw [fidx_hit hno hy hg]; simp, k1.trans (hW2.kk rfl)⟩
    · exact ⟨⟨i + 1, by rw [inc64 (by omega)], hlt, grow_all hno hy hg, k1.trans (hW2.kk rfl)⟩, by rw [inc64 (by omega)]; simp only [Int.toNat_natCast]; omega⟩
  · have hi : i = l.length := by simp at hge; omega
    subst hi
    exact ⟨by unfold fiR; rw [fidx_miss hno]; rfl, k1⟩
theorem lodd_any (f : Nat → Int) (w : World) : Calls Try.prog 17 #[.agg (arrI .u8 f 32 0).toArray] w fun e w' => e = .returned (.bool ((f 0).tmod 2 == 1)) ∧ K0 w w' := vc_lodd f w _ fun _ _ hW => ⟨rfl, hW.kk rfl⟩

end Go.Proofs.Ytmjanmffnblcoaa
