/- The contracts of feedrule's Rule.Check, Compile and Feed.Rule, by plain functions. Texts have at most 2^30 bytes. -/
import Derived.Test.YtcpjajjocmpkjaaDoorSel
import Derived.Test.YtcpjajjocmpkjaaDoorVcFeed
namespace Go.Proofs.YtcpjajjocmpkjaaDoor
open Go.RowKit

/-- The first error among distributions. -/
def dstS : List ByteArray → List ByteArray → Int
  | _, [] => 0
  | pre, d :: r => if distB d = false then 12 else if Lib.containsS pre d = true then 7 else dstS (pre ++ [d]) r
/-- The first error of a rule. -/
def chkS (nb ps : ByteArray) (mb dl : Int) (ds : List ByteArray) : Int :=
  if (siteS nb).2 ≠ 0 then (siteS nb).2 else
  match listR ps with
  | .inr (_, e) => e
  | .inl _ => if mb < 0 ∨ 65536 < mb ∨ dl < 0 ∨ 20160 < dl then 2 else if 8 < ds.length then 9 else dstS [] ds
theorem entsS_err : ∀ (ps : List ByteArray) (a : Int) (acc : List Ent) (o e : Int), entsS ps a acc = .inr (o, e) → e ≠ 0
  | [], a, acc, o, e, h => by simp [entsS] at h
  | x :: r, a, acc, o, e, h => by
    unfold entsS at h
    split at h
    · simp at h; omega
    · split at h
      · rename_i o' e' hc
        simp at h
        have := (compileR_off _ _ _ hc).2
        rw [← h.2]; exact this
      · exact entsS_err r _ _ o e h
theorem listR_err {s : ByteArray} {o e : Int} (h : listR s = .inr (o, e)) : e ≠ 0 := by
  unfold listR at h
  split at h
  · simp at h; omega
  · exact entsS_err _ _ _ _ _ h
theorem strP_cells {w : World} {b o : Nat} {zs : List ByteArray} (h : StrP w (some ⟨b, o, none⟩) zs) : ∀ j, j < zs.length → w.cell? ⟨b, o + j, none⟩ = some (.string (zs.getD j ByteArray.empty)) := fun j hj => by
  obtain ⟨b', o', he, hc⟩ := h j zs[j] (List.getElem?_eq_getElem hj)
  simp only [Option.some.injEq, Addr.mk.injEq] at he
  obtain ⟨rfl, rfl, _⟩ := he
  rw [hc]
  simp [List.getD_eq_getElem?_getD, hj]

set_option maxHeartbeats 400000 in
theorem check_any (nb ps : ByteArray) (mb dl : Int) (p : Option Addr) (c : Nat) (ds : List ByteArray) (w : World) (hps : ps.size ≤ 1073741824) (hG : GW w) (hds : StrP w p ds) (hc : ds.length ≤ c) (hl : ds.length ≤ 1073741824) :
    Calls Tryd.prog 24 #[.agg #[.string nb, .string ps, .int .i64 mb, .int .i64 dl, .slice p ds.length c]] w fun e w' => e = .returned (.int .i64 (chkS nb ps mb dl ds)) ∧ K0 w w' := by
  refine vc_check nb ps mb dl p ds.length c w _ ?_
  intro n w1 hn
  have hk1 : K0 w w1 := hn.kp _
  refine ⟨nb, cell_at hn.block rfl, ⟨(site_any nb w1).mono fun e w2 ⟨he, hw⟩ => ⟨_, _, he, ?_⟩⟩⟩
  subst hw
  generalize hsi : (siteS nb).2 = si
  generalize (siteS nb).1 = si1
  refine bsp_intro (fun h => ⟨?_, hk1⟩) (fun h => ?_)
  · have h : si ≠ 0 := by simpa using h
    simp [chkS, hsi, h]
  have h : si = 0 := by simpa using h
  refine ⟨ps, cell_at hn.block rfl, ⟨(parseList_any ps w2 hps (hG.kp hk1 (fun h => h))).mono fun e w3 ⟨hk3, he⟩ => ?_⟩⟩
  have hk13 : K0 w w3 := hk1.trans hk3
  have hb3 := hk3.blk hn.block (fun h => h)
  cases hL : listR ps with
  | inr oe =>
    obtain ⟨o, er⟩ := oe
    rw [hL] at he
    refine ⟨none, o, er, he, ?_⟩
    have := listR_err hL
    refine bsp_intro (fun _ => ⟨?_, hk13⟩) (fun h => absurd h (by simpa using this))
    simp [chkS, hsi, h, hL]
  | inl es =>
    rw [hL] at he
    obtain ⟨lb, he, _⟩ := he
    refine ⟨_, _, _, he, ?_⟩
    refine bsp_intro (fun h => absurd h (by decide)) (fun _ => ?_)
    have c2 : w3.cell? ⟨n, 0 + 2, none⟩ = some (.int .i64 mb) := cell_at hb3 rfl
    have c3 : w3.cell? ⟨n, 0 + 3, none⟩ = some (.int .i64 dl) := cell_at hb3 rfl
    have c4 : w3.cell? ⟨n, 0 + 4, none⟩ = some (.slice p ds.length c) := cell_at hb3 rfl
    refine ⟨mb, c2, mb, gimp_intro fun _ => c2, dl, gimp_intro fun _ => c3, dl, gimp_intro fun _ => c3, ?_⟩
    refine bsp_intro (fun hr => ⟨?_, hk13⟩) (fun hr => ?_)
    · have hr : mb < 0 ∨ 65536 < mb ∨ dl < 0 ∨ 20160 < dl := by simp at hr; omega
      simp [chkS, hsi, h, hL, hr]
    have hr : ¬ (mb < 0 ∨ 65536 < mb ∨ dl < 0 ∨ 20160 < dl) := by simp at hr; omega
    refine ⟨p, ds.length, c, c4, ?_⟩
    refine bsp_intro (fun h8 => ⟨?_, hk13⟩) (fun h8 => ?_)
    · have h8 : 8 < ds.length := by simp at h8; omega
      simp [chkS, hsi, h, hL, hr, h8]
    have h8 : ¬ 8 < ds.length := by simp at h8; omega
    have hR : chkS nb ps mb dl ds = dstS [] ds := by simp [chkS, hsi, h, hL, hr, h8]
    rw [hR]
    refine ⟨p, ds.length, c, c4, ?_⟩
    refine count1 ds.length (by omega) (fun k w4 => dstS [] ds = dstS (ds.take k) (ds.drop k) ∧ K0 w3 w4) ⟨rfl, .refl _ _⟩ ?_
    intro I m k w4 hk ⟨hS, hk4⟩ next
    refine bsp_intro (fun hlt => ?_) (fun hge => ?_)
    · have hlt : k < ds.length := by simpa using hlt
      obtain ⟨z, hz⟩ : ∃ z, ds[k]? = some z := ⟨_, List.getElem?_eq_getElem hlt⟩
      have hdr : ds.drop k = z :: ds.drop (k + 1) := by
        rw [List.drop_eq_getElem_cons hlt]
        rw [List.getElem?_eq_getElem hlt] at hz
        simp at hz
        rw [hz]
      have htk : ds.take (k + 1) = ds.take k ++ [z] := by rw [List.take_add_one, hz]; rfl
      rw [hdr] at hS
      have hd4 := hds.kp (hk13.trans hk4) (fun _ _ _ h => h)
      obtain ⟨b1, o1, rfl, hcz⟩ := hd4 k z hz
      have e0 : (k : Int).toNat = k := by omega
      show (0 ≤ (k : Int) ∧ (k : Int) < (ds.length : Int)) ∧ _
      refine ⟨⟨by omega, by omega⟩, z, by rw [e0]; exact hcz, ⟨(isDist_any z w4).mono fun e w5 ⟨he, hw⟩ => ⟨_, he, ?_⟩⟩⟩
      subst hw
      refine bsp_intro (fun hd => ⟨?_, hk13.trans hk4⟩) (fun hd => ?_)
      · have hd : distB z = false := by simpa using hd
        rw [hS]; simp [dstS, hd]
      have hd : distB z = true := by simpa using hd
      refine ⟨some ⟨b1, o1, none⟩, ds.length, c, cell_at (hk4.blk hb3 (fun h => h)) rfl, ⟨by omega, by omega⟩, ?_⟩
      rw [e0]
      refine ⟨(Tryd.slices_Contains_string b1 o1 k c ds z w5 (by omega) (by omega) (strP_cells hd4)).mono fun e w6 ⟨he, hw⟩ => ⟨_, he, ?_⟩⟩
      subst hw
      refine bsp_intro (fun hcn => ⟨?_, hk13.trans hk4⟩) (fun hcn => ?_)
      · rw [hS]; simp [dstS, hd, hcn]
      · refine next hlt w6 ⟨?_, hk4⟩
        rw [hS, htk]; simp [dstS, hd, hcn]
    · have hge : ¬ k < ds.length := by simpa using hge
      obtain rfl : k = ds.length := by omega
      refine ⟨?_, hk13.trans hk4⟩
      rw [hS, List.drop_length]; rfl

/-- A feed in the memory. -/
def FeedR (D : Nat → Prop) (w : World) (b : Nat) (nb ps : ByteArray) (mb dl : Int) (ds : List ByteArray) (es : List Ent) : Prop :=
  ∃ (p : Option Addr) (n c lb : Nat), w.heap[b]? = some (.cells #[.string nb, .string ps, .int .i64 mb, .int .i64 dl, .slice p n c, .pointer (some ⟨lb, 0, none⟩)] 81 (0, 0)) ∧ D b ∧ n = ds.length ∧ StrP w p ds ∧ (∀ k o, p = some ⟨k, o, none⟩ → D k ∧ k < w.heap.size) ∧ (p = none → ds = []) ∧ ListR D w lb ps es
theorem FeedR.kp {D M : Nat → Prop} {w w' : World} {b : Nat} {nb ps : ByteArray} {mb dl : Int} {ds : List ByteArray} {es : List Ent} (h : FeedR D w b nb ps mb dl ds es) (hk : Kp M w w') (hm : ∀ k, D k → k < w.heap.size → ¬ M k) : FeedR D w' b nb ps mb dl ds es := by
  obtain ⟨p, n, c, lb, h1, h2, h3, h4, h5, h6, h7⟩ := h
  exact ⟨p, n, c, lb, hk.blk h1 (hm b h2 (block_lt h1)), h2, h3, h4.kp hk (fun k o e => hm k (h5 k o e).1 (h5 k o e).2), fun k o e => ⟨(h5 k o e).1, Nat.lt_of_lt_of_le (h5 k o e).2 hk.size⟩, h6, h7.kp hk hm⟩
theorem own_strP {w : World} {base : Nat} {p : Option Addr} {n c : Nat} {zs : List ByteArray} {t : TypeId} (h : w.ownsRow base t 1 (.slice p n c) n (zs.map Value.string)) : n = zs.length ∧ n ≤ c ∧ StrP w p zs ∧ (∀ k o, p = some ⟨k, o, none⟩ → base ≤ k ∧ k < w.heap.size) ∧ (p = none → zs = []) := by
  have hl := h.1
  rw [List.length_map] at hl
  refine ⟨by omega, ?_, fun j z hj => ?_, fun k o e => ?_, fun e => ?_⟩
  · rcases h.2 with ⟨_, h0⟩ | ⟨g, cap, cur, hv, _, _, h9, _⟩
    · omega
    · simp at hv; omega
  · obtain ⟨g, v, hp, hv, hc⟩ := own_cell h (k := j) (by have := (List.getElem?_eq_some_iff.1 hj).1; omega)
    rw [List.getElem?_map, hj] at hv
    simp at hv
    subst hv
    exact ⟨g, 0, hp, hc⟩
  · subst e
    exact ⟨own_ge h rfl, own_lt h rfl⟩
  · subst e
    rcases h.2 with ⟨_, h0⟩ | ⟨g, cap, cur, hv, _⟩
    · exact List.eq_nil_of_length_eq_zero (by omega)
    · simp at hv
theorem clone_any (p : Option Addr) (c : Nat) (zs : List ByteArray) (w : World) (h : StrP w p zs) (hl : zs.length ≤ 1073741824) : Calls Tryd.prog 31 #[.slice p zs.length c] w fun e w' =>
    ∃ p' c', e = .returned (.slice p' zs.length c') ∧ w'.ownsRow w.heap.size 9 1 (.slice p' zs.length c') zs.length (zs.map Value.string) ∧ K0 w w' := by
  have fin : ∀ (v' : Value) (w' : World), w'.ownsRow w.heap.size 9 1 v' zs.length (zs.map Value.string) → K0 w w' → ∃ p' c', Ending.returned v' = .returned (.slice p' zs.length c') ∧ w'.ownsRow w.heap.size 9 1 (.slice p' zs.length c') zs.length (zs.map Value.string) ∧ K0 w w' := fun v' w' ho hk => by
    rcases ho.2 with ⟨rfl, h0⟩ | ⟨g, cap, cur, rfl, _⟩
    · exact ⟨none, 0, by rw [h0], by rw [h0] at ho ⊢; exact ho, hk⟩
    · exact ⟨_, _, rfl, ho, hk⟩
  cases p with
  | none =>
    have : zs = [] := by
      cases zs with
      | nil => rfl
      | cons z r => obtain ⟨b, o, he, _⟩ := h 0 z rfl; simp at he
    subst this
    exact (Tryd.slices_Clone_string_nil 0 c w).mono fun e w' ⟨he, hw⟩ => ⟨none, 0, he, World.ownsRow_nil _ _ _ _, by rw [hw]; exact .refl _ _⟩
  | some a =>
    rcases Nat.eq_zero_or_pos zs.length with h0 | h0
    · have : zs = [] := List.eq_nil_of_length_eq_zero h0
      subst this
      exact (Tryd.slices_Clone_string_zero a c w).mono fun e w' ⟨v', he, ho, _, hb⟩ => by rw [he]; exact fin v' w' ho (K0.of_below hb)
    · obtain ⟨b, o, he, hc⟩ := h 0 zs[0] (List.getElem?_eq_getElem h0)
      rw [he] at h ⊢
      exact (Tryd.slices_Clone_string b o zs.length c zs w (Nat.le_refl _) (by omega) (strP_cells h)).mono fun e w' ⟨v', he, ho, _, hb⟩ => by
        rw [he]
        rw [List.take_length] at ho
        exact fin v' w' ho (K0.of_below hb)

set_option maxHeartbeats 400000 in
theorem fcompile_any (nb ps : ByteArray) (mb dl : Int) (p : Option Addr) (c : Nat) (ds : List ByteArray) (w : World) (hps : ps.size ≤ 1073741824) (hG : GW w) (hds : StrP w p ds) (hc : ds.length ≤ c) (hl : ds.length ≤ 1073741824) :
    Calls Tryd.prog 11 #[.agg #[.string nb, .string ps, .int .i64 mb, .int .i64 dl, .slice p ds.length c]] w fun e w' => K0 w w' ∧
      (chkS nb ps mb dl ds ≠ 0 ∧ e = .returned (.tuple #[.pointer none, .int .i64 (chkS nb ps mb dl ds)]) ∨
       chkS nb ps mb dl ds = 0 ∧ ∃ b es, listR ps = .inl es ∧ e = .returned (.tuple #[.pointer (some ⟨b, 0, none⟩), .int .i64 0]) ∧ FeedR (fun k => w.heap.size ≤ k) w' b nb ps mb dl ds es) := by
  refine vc_fcompile nb ps mb dl p ds.length c w _ ?_
  intro n w1 hn
  have hk1 : K0 w w1 := hn.kp _
  have hn0 : w.heap.size ≤ n := hn.ge
  refine ⟨nb, ps, mb, dl, p, ds.length, c, AtL_block hn.block rfl, ⟨(check_any nb ps mb dl p c ds w1 hps (hG.kp hk1 (fun h => h)) (hds.kp hk1 (fun _ _ _ h => h)) hc hl).mono fun e w2 ⟨he, hk2⟩ => ⟨_, he, ?_⟩⟩⟩
  have hk12 : K0 w w2 := hk1.trans hk2
  generalize hch : chkS nb ps mb dl ds = ch
  refine bsp_intro (fun h => ⟨hk12, .inl ⟨by simpa using h, rfl⟩⟩) (fun h => ?_)
  have h : ch = 0 := by simpa using h
  subst h
  have hb2 := hk2.blk hn.block (fun h => h)
  refine ⟨ps, cell_at hb2 rfl, ⟨(parseList_any ps w2 hps (hG.kp hk12 (fun h => h))).mono fun e w3 ⟨hk3, he⟩ => ?_⟩⟩
  have hk13 : K0 w w3 := hk12.trans hk3
  have hb3 := hk3.blk hb2 (fun h => h)
  cases hL : listR ps with
  | inr oe =>
    obtain ⟨o, er⟩ := oe
    exfalso
    have h1 := listR_err hL
    unfold chkS at hch
    rw [hL] at hch
    split at hch
    · rename_i h2; exact h2 hch
    · exact h1 hch
  | inl es =>
    rw [hL] at he
    obtain ⟨lb, he, hlr⟩ := he
    refine ⟨_, _, _, he, ?_⟩
    refine bsp_intro (fun h => absurd h (by decide)) (fun _ => ?_)
    refine ⟨p, ds.length, c, cell_at hb3 rfl, ⟨(clone_any p c ds w3 (hds.kp hk13 (fun _ _ _ h => h)) hl).mono fun e w4 ⟨p', c', he, ho, hk4⟩ => ⟨_, _, _, he, ?_⟩⟩⟩
    have hb4 := hk4.blk hb3 (fun h => h)
    have hk14 : K0 w w4 := hk13.trans hk4
    refine ⟨cell_wr hb4 (by simp), fun w5 hp5 => ?_⟩
    have hb5 : w5.heap[n]? = some (.cells #[.string nb, .string ps, .int .i64 mb, .int .i64 dl, .slice p' ds.length c'] 28 (0, 0)) := hp5.block hb4
    refine ⟨nb, ps, mb, dl, p', ds.length, c', AtL_block hb5 rfl, fun n2 w6 hn6 => ?_⟩
    have hn3 : n < w3.heap.size := block_lt hb3
    have ho5 := owns_kp ho hp5.kp (fun k hk e => by have := own_ge ho hk; omega)
    have hk15 : K0 w w5 := hk14.fresh hp5.kp (fun i hi e => by omega)
    have hl5 : ListR (fun k => w2.heap.size ≤ k) w5 lb ps es := (hlr.kp hk4 (fun _ _ _ h => h)).kp hp5.kp (fun k hk _ e => by have := block_lt hb2; omega)
    obtain ⟨_, _, hs5, hd5, hz5⟩ := own_strP ho5
    have hk6 := hn6.kp (fun _ => False)
    refine ⟨hk15.trans hk6, .inr ⟨rfl, n2, es, rfl, rfl, p', ds.length, c', lb, hn6.block, ?_, rfl, hs5.kp hk6 (fun _ _ _ h => h), fun k o e => ?_, hz5, ?_⟩⟩
    · have := hn6.ge; have := hk15.size; omega
    · have h1 := hd5 k o e; have h2 := hk13.size; have h3 := hk6.size; omega
    · exact (hl5.kp hk6 (fun _ _ _ h => h)).mono fun k hk _ => by have := hk12.size; omega

end Go.Proofs.YtcpjajjocmpkjaaDoor
