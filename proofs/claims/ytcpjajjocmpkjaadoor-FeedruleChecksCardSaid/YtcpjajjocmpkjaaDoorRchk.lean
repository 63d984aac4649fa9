/- The contracts of the reference's has, Check, Reason and Due: they agree with the program's plain functions. Names have at most 2^47 bytes. -/
import Derived.Test.YtcpjajjocmpkjaaDoorRmat
import Derived.Test.YtcpjajjocmpkjaaDoorReas
namespace Go.Proofs.YtcpjajjocmpkjaaDoor
open Go.RowKit

theorem toList_beq (a b : ByteArray) : (a.toList == b.toList) = decide (a = b) := by
  rw [ByteArray.toList_eq, ByteArray.toList_eq, Bool.eq_iff_iff]
  simp only [beq_iff_eq, decide_eq_true_eq]
  constructor
  · intro h
    cases a; cases b
    congr 1
    exact Array.toList_inj.1 h
  · rintro rfl; rfl
theorem containsS_snoc (zs : List ByteArray) (z s : ByteArray) : Lib.containsS (zs ++ [z]) s = (Lib.containsS zs s || decide (z = s)) := by
  rw [Bool.eq_iff_iff, Bool.or_eq_true, Lib.containsS_iff, Lib.containsS_iff, decide_eq_true_eq, List.mem_append, List.mem_singleton]
  constructor
  · rintro (h | h)
    · exact .inl h
    · exact .inr h.symm
  · rintro (h | h)
    · exact .inl h
    · exact .inr h.symm
theorem has_any (p : Option Addr) (c : Nat) (zs : List ByteArray) (n : Nat) (s : ByteArray) (w : World) (hz : StrP w p zs) (hn : n ≤ zs.length) (hl : zs.length ≤ 9223372036854775807) :
    Calls Tryd.prog 35 #[.slice p n c, .string s] w fun e w' => e = .returned (.bool (Lib.containsS (zs.take n) s)) ∧ w' = w := by
  refine vc_has p n c s w _ ?_
  refine count1 n (by omega) (fun k w' => Lib.containsS (zs.take k) s = false ∧ w' = w) ⟨?_, rfl⟩ ?_
  · cases h : Lib.containsS (zs.take 0) s with
    | false => rfl
    | true => rw [Lib.containsS_iff] at h; simp at h
  rintro I m k w' hk ⟨hno, rfl⟩ next
  refine bsp_intro (fun hlt => ?_) (fun hge => ?_)
  · have hlt : k < n := by simpa using hlt
    obtain ⟨z, hzk⟩ : ∃ z, zs[k]? = some z := ⟨_, List.getElem?_eq_getElem (by omega)⟩
    have htk : zs.take (k + 1) = zs.take k ++ [z] := by rw [List.take_add_one, hzk]; rfl
    obtain ⟨b, o, rfl, hc⟩ := hz k z hzk
    show (0 ≤ (k : Int) ∧ (k : Int) < (n : Int)) ∧ _
    rw [Int.toNat_natCast]
    refine ⟨by omega, z, hc, ?_⟩
    rw [toList_beq]
    refine bsp_intro (fun he => ⟨?_, rfl⟩) (fun he => next hlt w' ⟨?_, rfl⟩)
    · have he : z = s := by simpa using he
      have : Lib.containsS (zs.take n) s = true := by
        rw [Lib.containsS_iff, ← he]
        exact List.mem_of_getElem? (i := k) (by rw [List.getElem?_take, if_pos hlt]; exact hzk)
      rw [this]
    · rw [htk, containsS_snoc, hno, he]; rfl
  · have : k = n := by simp at hge; omega
    subst this
    exact ⟨by rw [hno], rfl⟩

set_option maxHeartbeats 1000000 in
theorem rcheck_any (nb ps : ByteArray) (mb dl : Int) (p : Option Addr) (c : Nat) (ds : List ByteArray) (w : World) (hps : ps.size ≤ 1073741824) (hds : StrP w p ds) (hc : ds.length ≤ c) (hl : ds.length ≤ 1073741824) (hz : ∀ z ∈ ds, z.size ≤ 9223372036854775807) :
    Calls Tryd.prog 13 #[.agg #[.string nb, .string ps, .int .i64 mb, .int .i64 dl, .slice p ds.length c]] w fun e w' => e = .returned (.int .i64 (chkS nb ps mb dl ds)) ∧ K0 w w' := by
  refine vc_rcheck nb ps mb dl p ds.length c w _ ?_
  intro n w1 hn
  have hk1 : K0 w w1 := hn.kp _
  refine ⟨nb, cell_at hn.block rfl, ⟨(refSite_any nb w1).mono fun e w2 ⟨he, hw⟩ => ⟨_, _, he, ?_⟩⟩⟩
  subst hw
  generalize hsi : (siteS nb).2 = si
  generalize (siteS nb).1 = si1
  refine bsp_intro (fun h => ⟨?_, hk1⟩) (fun h => ?_)
  · have h : si ≠ 0 := by simpa using h
    simp [chkS, hsi, h]
  have h : si = 0 := by simpa using h
  refine ⟨ps, cell_at hn.block rfl, ⟨(rparseList_any ps w2 hps).mono fun e w3 ⟨hk3, he⟩ => ?_⟩⟩
  have hk13 : K0 w w3 := hk1.trans hk3
  have hb3 := hk3.blk hn.block (fun h => h)
  cases hL : listR ps with
  | inr oe =>
    obtain ⟨o, er⟩ := oe
    rw [hL] at he
    refine ⟨_, _, _, o, er, he, ?_⟩
    have := listR_err hL
    refine bsp_intro (fun _ => ⟨?_, hk13⟩) (fun h => absurd h (by simpa using this))
    simp [chkS, hsi, h, hL]
  | inl es =>
    rw [hL] at he
    obtain ⟨lp, ln, lc, LL, he, _⟩ := he
    refine ⟨_, _, _, _, _, he, ?_⟩
    refine bsp_intro (fun h => absurd h (by decide)) (fun _ => ?_)
    have c2 : w3.cell? ⟨n, 0 + 2, none⟩ = some (.int .i64 mb) := cell_at hb3 rfl
    have c3 : w3.cell? ⟨n, 0 + 3, none⟩ = some (.int .i64 dl) := cell_at hb3 rfl
    have c4 : w3.cell? ⟨n, 0 + 4, none⟩ = some (.slice p ds.length c) := cell_at hb3 rfl
    refine ⟨mb, c2, mb, gimp_intro fun _ => c2, dl, gimp_intro fun _ => c3, dl, gimp_intro fun _ => c3, ?_⟩
    refine bsp_intro (fun hr => ⟨?_, hk13⟩) (fun hr => ?_)
    · have hr : mb < 0 ∨ 65536 < mb ∨ dl < 0 ∨ 20160 < dl := by simp at hr; omega
      simp [chkS, hsi, h, hL, hr]
    have hr : ¬ (mb < 0 ∨ 65536 < mb ∨ dl < 0 ∨ 20160 < dl) := by simp at hr; omega
    refine ⟨p, ds.length, c, c4, ?_⟩
    refine bsp_intro (fun h8 => ⟨?_, hk13⟩) (fun h8 => ?_)
    · have h8 : 8 < ds.length := by simp at h8; omega
      simp [chkS, hsi, h, hL, hr, h8]
    have h8 : ¬ 8 < ds.length := by simp at h8; omega
    have hR : chkS nb ps mb dl ds = dstS [] ds := by simp [chkS, hsi, h, hL, hr, h8]
    rw [hR]
    refine count1 ds.length (by omega) (fun k w4 => dstS [] ds = dstS (ds.take k) (ds.drop k) ∧ K0 w3 w4) ⟨rfl, .refl _ _⟩ ?_
    intro I m k w4 hk ⟨hS, hk4⟩ next
    have c4' : ∀ wx, K0 w3 wx → wx.cell? ⟨n, 0 + 4, none⟩ = some (.slice p ds.length c) := fun wx hx => cell_at (hx.blk hb3 (fun h => h)) rfl
    refine ⟨p, ds.length, c, c4' w4 hk4, bsp_intro (fun hlt => ?_) (fun hge => ?_)⟩
    · have hlt : k < ds.length := by simpa using hlt
      obtain ⟨z, hzk⟩ : ∃ z, ds[k]? = some z := ⟨_, List.getElem?_eq_getElem hlt⟩
      have hdr : ds.drop k = z :: ds.drop (k + 1) := by
        rw [List.drop_eq_getElem_cons hlt]
        rw [List.getElem?_eq_getElem hlt] at hzk
        simp at hzk
        rw [hzk]
      have htk : ds.take (k + 1) = ds.take k ++ [z] := by rw [List.take_add_one, hzk]; rfl
      rw [hdr] at hS
      have hd4 := hds.kp (hk13.trans hk4) (fun _ _ _ h => h)
      obtain ⟨b1, o1, rfl, hcz⟩ := hd4 k z hzk
      refine ⟨_, ds.length, c, c4' w4 hk4, ?_⟩
      show (0 ≤ (k : Int) ∧ (k : Int) < (ds.length : Int)) ∧ _
      rw [Int.toNat_natCast]
      refine ⟨by omega, z, hcz, ⟨(word_any z (by have := hz z (List.mem_of_getElem? hzk); omega) w4).mono fun e w5 ⟨he, hw⟩ => ⟨_, he, ?_⟩⟩⟩
      subst hw
      refine bsp_intro (fun hd => ⟨?_, hk13.trans hk4⟩) (fun hd => ?_)
      · have hd : distB z = false := by simpa using hd
        rw [hS]; simp [dstS, hd]
      have hd : distB z = true := by simpa using hd
      have hk5 := hk4.drew
      refine ⟨some ⟨b1, o1, none⟩, ds.length, c, c4' _ hk5, ⟨by omega, by omega⟩, some ⟨b1, o1, none⟩, ds.length, c, c4' _ hk5, ?_⟩
      show (0 ≤ (k : Int) ∧ (k : Int) < (ds.length : Int)) ∧ _
      refine ⟨by omega, z, hcz, ?_⟩
      refine ⟨(has_any (some ⟨b1, o1, none⟩) c ds k z w5.drew hd4 (by omega) (by omega)).mono fun e w6 ⟨he, hw⟩ => ⟨_, he, ?_⟩⟩
      subst hw
      refine bsp_intro (fun hcn => ⟨?_, hk13.trans hk5⟩) (fun hcn => ?_)
      · rw [hS]; simp [dstS, hd, hcn]
      · refine next hlt _ ⟨?_, hk5⟩
        rw [hS, htk]; simp [dstS, hd, hcn]
    · have hge : ¬ k < ds.length := by simpa using hge
      obtain rfl : k = ds.length := by omega
      refine ⟨?_, hk13.trans hk4⟩
      rw [hS, List.drop_length]; rfl

theorem relEs_len {es : List Ent} {L : List RItA} (h : RelEnts es (L.map (·.1))) (h64 : es.length ≤ 64) (h80 : ∀ e ∈ es, e.els.length ≤ 80) : L.length ≤ 64 ∧ ∀ x ∈ L, x.1.rs.length ≤ 80 := by
  have hl := h.len
  rw [List.length_map] at hl
  refine ⟨by omega, fun x hx => ?_⟩
  obtain ⟨j, hj, rfl⟩ := List.getElem_of_mem hx
  have hj' : j < es.length := by omega
  have := (h.at_ j es[j] L[j].1 (List.getElem?_eq_getElem hj') (by simp [hj])).els.len
  rw [← this]
  exact h80 _ (List.getElem_mem hj')
set_option maxHeartbeats 1000000 in
theorem rreason_any (nb ps : ByteArray) (mb dl : Int) (p : Option Addr) (c : Nat) (ds : List ByteArray) (x : It) (q : Option Addr) (d : Nat) (es : List Ent) (w : World) (hps : ps.size ≤ 1073741824) (hL : listR ps = .inl es) (hds : StrP w p ds) (hl : ds.length ≤ 1073741824) (hg : StrP w q x.gs) (hgl : x.gs.length ≤ 1073741824) (hgz : ∀ z ∈ x.gs, z.size ≤ 140737488355328) :
    Calls Tryd.prog 15 #[.agg #[.string nb, .string ps, .int .i64 mb, .int .i64 dl, .slice p ds.length c], .agg (x.cells q d)] w fun e w' => e = .returned (.int .i64 (rsnS nb mb ds es x)) ∧ K0 w w' := by
  refine vc_rreason nb ps mb dl p ds.length c (x.cells q d) w _ ?_
  intro n w1 hn n1 w2 hn1
  have hb := (hn1.kp (fun _ => False)).blk hn.block (fun h => h)
  have hb1 := hn1.block
  have k2 : K0 w w2 := (hn.kp (fun _ => False)).trans (hn1.kp _)
  refine ⟨x.fr, cell_at hb1 rfl, nb, cell_at hb rfl, bsp_intro (fun h1 => ⟨?_, k2⟩) (fun h1 => ⟨x.ct, cell_at hb1 rfl, bsp_intro (fun hc => ⟨?_, k2⟩) (fun hc => ?_)⟩)⟩
  · unfold rsnS; rw [if_pos (show rsnB nb mb ds es x 1 = true from h1)]
  · unfold rsnS; rw [if_neg (by rw [show rsnB nb mb ds es x 1 = false from h1]; decide)]
    simp [rsnB, hc]
  have e1 : rsnS nb mb ds es x = if rsnB nb mb ds es x 2 = true then 2 else if rsnB nb mb ds es x 3 = true then 3 else if rsnB nb mb ds es x 4 = true then 4 else 0 := by
    unfold rsnS; rw [if_neg (by rw [show rsnB nb mb ds es x 1 = false from h1]; decide)]
  rw [e1]
  obtain ⟨h64, h80⟩ := listR_ok hL
  refine ⟨ps, cell_at hb rfl, ⟨(rparseList_any ps w2 hps).mono fun e w3 ⟨hk3, he⟩ => ?_⟩⟩
  rw [hL] at he
  obtain ⟨lp, ln, lc, LL, he, hRL, hrel⟩ := he
  obtain ⟨l64, l80⟩ := relEs_len hrel h64 h80
  have k3 : K0 w w3 := k2.trans hk3
  have hb3 := hk3.blk hb (fun h => h)
  have hb13 := hk3.blk hb1 (fun h => h)
  refine ⟨_, _, _, _, _, he, q, x.gs.length, d, cell_at hb13 rfl, ⟨(rselects_any hRL l64 l80 q d x.gs (hg.kp k3 (fun _ _ _ h => h)) hgl hgz).mono fun e w4 ⟨he, hk4⟩ => ⟨_, he, ?_⟩⟩⟩
  rw [← rel_sel hrel]
  have k4 : K0 w w4 := k3.trans hk4
  have hb4 := hk4.blk hb3 (fun h => h)
  have hb14 := hk4.blk hb13 (fun h => h)
  have e2 : rsnB nb mb ds es x 2 = !selB es x.gs := by simp [rsnB, hc]
  refine bsp_intro (fun h2 => ⟨?_, k4⟩) (fun h2 => ?_)
  · rw [if_pos (by rw [e2]; exact h2)]
  rw [if_neg (by rw [e2, h2]; decide)]
  have e3 : rsnB nb mb ds es x 3 = (mb != 0 && decide (mb < x.by_)) := by simp [rsnB, hc]
  refine ⟨mb, cell_at hb4 rfl, mb, gimp_intro fun _ => cell_at hb4 rfl, x.by_, gimp_intro fun _ => cell_at hb14 rfl, bsp_intro (fun h3 => ⟨?_, k4⟩) (fun h3 => ?_)⟩
  · rw [if_pos (by rw [e3]; exact h3)]
  rw [if_neg (by rw [e3, h3]; decide)]
  have e4 : rsnB nb mb ds es x 4 = (decide ((ds.length : Int) > 0) && !x.d.toList == [] && !Lib.containsS ds x.d) := by simp [rsnB, hc]
  refine ⟨p, ds.length, c, cell_at hb4 rfl, x.d, gimp_intro fun _ => cell_at hb14 rfl, p, ds.length, c, gimp_intro fun _ => cell_at hb4 rfl, x.d, gimp_intro fun _ => cell_at hb14 rfl, bsp_intro (fun h4 => ?_) (fun h4 => ⟨?_, k4⟩)⟩
  · refine ⟨(has_any p c ds ds.length x.d w4 (hds.kp k4 (fun _ _ _ h => h)) (Nat.le_refl _) (by omega)).mono fun e w5 ⟨he, hw⟩ => ⟨_, he, ?_⟩⟩
    subst hw
    rw [List.take_length]
    refine bsp_intro (fun h5 => ⟨?_, k4⟩) (fun h5 => ⟨?_, k4⟩)
    · rw [if_pos (by rw [e4, h4]; exact h5)]
    · rw [if_neg (by rw [e4, h4, h5]; decide)]
  · rw [if_neg (by rw [e4, h4]; simp)]
theorem rdue_any (nb ps : ByteArray) (mb dl : Int) (p : Option Addr) (n c : Nat) (x : It) (q : Option Addr) (d : Nat) (w : World) (hdl : 0 ≤ dl ∧ dl ≤ 20160) (har : -9223372036854775808 ≤ x.ar ∧ x.ar ≤ 9223372036854775807) :
    Calls Tryd.prog 18 #[.agg #[.string nb, .string ps, .int .i64 mb, .int .i64 dl, .slice p n c], .agg (x.cells q d)] w fun e w' => e = .returned (.int .i64 (dueS dl x.ar)) ∧ K0 w w' := by
  refine vc_rdue nb ps mb dl p n c (x.cells q d) w _ ?_
  intro n1 w1 hn n2 w2 hn1
  have hb := (hn1.kp (fun _ => False)).blk hn.block (fun h => h)
  have hb1 := hn1.block
  have k2 : K0 w w2 := (hn.kp (fun _ => False)).trans (hn1.kp _)
  refine ⟨x.ar, cell_at hb1 rfl, dl, cell_at hb rfl, ?_⟩
  rw [wr64 (x := 9223372036854775807 - dl) (by omega) (by omega)]
  refine bsp_intro (fun hd => ⟨?_, k2⟩) (fun hd => ⟨x.ar, cell_at hb1 rfl, dl, cell_at hb rfl, ?_, k2⟩)
  · have hd : 9223372036854775807 - dl < x.ar := by simpa using hd
    unfold dueS; rw [if_pos hd]
  · have hd : ¬ 9223372036854775807 - dl < x.ar := by simpa using hd
    rw [wr64 (by omega) (by omega)]; unfold dueS; rw [if_neg hd]

end Go.Proofs.YtcpjajjocmpkjaaDoor
