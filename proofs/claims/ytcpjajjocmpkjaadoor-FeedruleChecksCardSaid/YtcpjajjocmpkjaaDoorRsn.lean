/- The statement FeedruleReasons on worlds: it returns true and leaves what was there as it was. Strings have at most 2^47 bytes. -/
import Derived.Test.YtcpjajjocmpkjaaDoorConv
import Derived.Test.YtcpjajjocmpkjaaDoorRchk
import Derived.Test.YtcpjajjocmpkjaaDoorVcLaw2
namespace Go.Proofs.YtcpjajjocmpkjaaDoor
open Go.RowKit

theorem chk_dl {nb ps : ByteArray} {mb dl : Int} {ds : List ByteArray} {es : List Ent} (hL : listR ps = .inl es) (h0 : chkS nb ps mb dl ds = 0) : 0 ≤ dl ∧ dl ≤ 20160 := by
  unfold chkS at h0
  split at h0
  · rename_i h; exact absurd h0 h
  · rw [hL] at h0
    simp only at h0
    split at h0
    · cases h0
    · rename_i h; omega
set_option maxHeartbeats 1000000 in
theorem reasons_any (nb ps : ByteArray) (mb dl : Int) (p : Option Addr) (c : Nat) (ds : List ByteArray) (x : It) (q : Option Addr) (cx : Nat) (w : World) (hG : GW w) (hds : StrP w p ds) (hdz : ∀ z ∈ ds, z.size ≤ 9223372036854775807) (hg : StrP w q x.gs) (hc : x.gs.length ≤ cx) (hx : ∀ z ∈ x.gs, z.size ≤ 140737488355328) (har : -9223372036854775808 ≤ x.ar ∧ x.ar ≤ 9223372036854775807) :
    Calls Tryd.prog 3 #[.agg #[.string nb, .string ps, .int .i64 mb, .int .i64 dl, .slice p ds.length c], .agg (x.cells q cx)] w fun e w' => e = .returned (.bool true) ∧ K0 w w' := by
  refine vc_reasons nb ps mb dl p ds.length c (x.cells q cx) w _ ?_
  intro n1 w1 hn1 n w2 hn
  have k2 : K0 w w2 := (hn1.kp _).trans (hn.kp _)
  have b1 := (hn.kp (fun _ => False)).blk hn1.block (fun h => h)
  refine ⟨nb, ps, mb, dl, p, ds.length, c, AtL_block b1 rfl, ⟨(to_any nb ps mb dl p c ds w2 (hds.kp k2 (fun _ _ _ h => h))).mono fun e w3 he => ?_⟩⟩
  obtain ⟨p1, p2, c1, c2, he, ho1, ho2, hne, hk3⟩ := he
  refine ⟨_, _, _, _, _, _, _, _, _, _, _, _, _, _, he, fun n5 w4 hn4 n6 w5 hn5 => ?_⟩
  have k35 := (hn4.kp (fun _ => False)).trans (hn5.kp (fun _ => False))
  have b54 := (hn5.kp (fun _ => False)).blk hn4.block (fun h => h)
  have g5 : w3.heap.size ≤ n5 := hn4.ge
  have g6 : n5 < n6 := by have := hn4.size; have := hn5.ge; omega
  refine ⟨WrL_block b54 (by simp), fun w6 hp6 => ?_⟩
  have b56 := hp6.full b54 rfl
  have b66 := hp6.kp.blk hn5.block (fun e => by omega)
  refine ⟨WrL_block b66 (by simp), fun w7 hp7 => ?_⟩
  have b57 := hp7.kp.blk b56 (fun e => by omega)
  have b67 := hp7.full b66 rfl
  have k37 : K0 w3 w7 := (k35.fresh hp6.kp (fun i hi e => by omega)).fresh hp7.kp (fun i hi e => by omega)
  have k7 : K0 w w7 := (k2.trans hk3).trans k37
  generalize hnb : nb.extract 0 (min nb.size 40) = nb' at *
  generalize hps : ps.extract 0 (min ps.size 300) = ps' at *
  have hps' : ps'.size ≤ 300 := by rw [← hps, ByteArray.size_extract]; omega
  have hd10 : (ds.take 10).length ≤ 10 := by rw [List.length_take]; omega
  have hdz' : ∀ z ∈ ds.take 10, z.size ≤ 9223372036854775807 := fun z hz => hdz z (List.mem_of_mem_take hz)
  generalize ds.take 10 = ds' at *
  obtain ⟨_, hc1, hs1, _, _⟩ := own_strP (owns_kp ho1 k37 (fun _ _ h => h))
  obtain ⟨_, hc2, hs2, _, _⟩ := own_strP (owns_kp ho2 k37 (fun _ _ h => h))
  refine ⟨nb', ps', mb, dl, p1, ds'.length, c1, AtL_block b57 rfl, ⟨(fcompile_any nb' ps' mb dl p1 c1 ds' w7 (by omega) (hG.kp k7 (fun h => h)) hs1 hc1 (by omega)).mono fun e w8 ⟨hk8, he⟩ => ?_⟩⟩
  have k8 : K0 w w8 := k7.trans hk8
  have gw8 := hG.kp k8 (fun h => h)
  rcases he with ⟨h0, he⟩ | ⟨h0, b, es, hL, he, hf⟩
  · refine ⟨_, _, he, bsp_intro (fun _ => ?_) (fun h => ?_)⟩
    · refine ⟨(known_any w8 gw8).mono fun e w9 ⟨he, hk9⟩ => ⟨_, he, nb', ps', mb, dl, p2, ds'.length, c2, gimp_intro fun _ => AtL_block ((hk8.trans hk9).blk b67 (fun h => h)) rfl, bsp_intro (fun _ => ?_) (fun h => absurd h (by decide))⟩⟩
      refine ⟨(rcheck_any nb' ps' mb dl p2 c2 ds' w9 (by omega) (hs2.kp (hk8.trans hk9) (fun _ _ _ h => h)) hc2 (by omega) hdz').mono fun e wa ⟨he, hka⟩ => ⟨_, he, ?_, (k8.trans hk9).trans hka⟩⟩
      simp
    · exfalso; simp at h
  refine ⟨_, _, he, bsp_intro (fun h => absurd h (by simp)) (fun _ => ?_)⟩
  obtain ⟨h64, h80⟩ := listR_ok hL
  have hdlb := chk_dl hL h0
  have bn8 : w8.heap[n]? = some (.cells (x.cells q cx) 27 (0, 0)) := ((hk3.trans k37).trans hk8).blk hn.block (fun h => h)
  refine ⟨x.id, q, x.gs.length, cx, x.d, x.by_, x.ct, x.fr, x.ar, AtL_block bn8 rfl, ⟨(item_any x q cx w8 (hg.kp k8 (fun _ _ _ h => h)) hc).mono fun e w9 he => ?_⟩⟩
  obtain ⟨q1, q2, d1, d2, he, hr1, hr2, hk9⟩ := he
  refine ⟨_, _, _, _, _, _, _, _, _, _, _, _, _, _, _, _, _, _, he, fun n10 wa hna n11 wb hnb' => ?_⟩
  have ga : w9.heap.size ≤ n10 := hna.ge
  have gb : n10 < n11 := by have := hna.size; have := hnb'.ge; omega
  have b10b := (hnb'.kp (fun _ => False)).blk hna.block (fun h => h)
  refine ⟨WrL_block b10b (by simp), fun wc hpc => ?_⟩
  have b10c : wc.heap[n10]? = some (.cells (x.cut.cells q1 d1) 39 (0, 0)) := hpc.full b10b rfl
  have b11c := hpc.kp.blk hnb'.block (fun e => by omega)
  refine ⟨WrL_block b11c (by simp), fun wd hpd => ?_⟩
  have b11d : wd.heap[n11]? = some (.cells (x.cut.cells q2 d2) 27 (0, 0)) := hpd.full b11c rfl
  have b10d := hpd.kp.blk b10c (fun e => by omega)
  have k9d : K0 w9 wd := (((hna.kp (fun _ => False)).trans (hnb'.kp _)).fresh hpc.kp (fun i hi e => by omega)).fresh hpd.kp (fun i hi e => by omega)
  clear hna hnb' b10b hpc b10c b11c hpd
  have hxg : ∀ z ∈ x.cut.gs, z.size ≤ 140737488355328 := fun z hz => hx z (List.mem_of_mem_take hz)
  have hxl : x.cut.gs.length ≤ 20 := by show (x.gs.take 20).length ≤ 20; rw [List.length_take]; omega
  have hxok : x.cut.ok := ⟨by omega, fun z hz => by have := hxg z hz; omega⟩
  obtain ⟨_, _, hsq1, _, _⟩ := own_strP hr1
  obtain ⟨_, _, hsq2, _, _⟩ := own_strP hr2
  have k8d : K0 w8 wd := hk9.trans k9d
  have b6d := (hk8.trans k8d).blk b67 (fun h => h)
  refine ⟨nb', ps', mb, dl, p2, ds'.length, c2, AtL_block b6d rfl, x.cut.id, q2, x.cut.gs.length, d2, x.cut.d, x.cut.by_, x.cut.ct, x.cut.fr, x.cut.ar, AtL_block b11d rfl, ?_⟩
  refine ⟨(rreason_any nb' ps' mb dl p2 c2 ds' x.cut q2 d2 es wd (by omega) hL (hs2.kp (hk8.trans k8d) (fun _ _ _ h => h)) (by omega) (hsq2.kp k9d (fun _ _ _ h => h)) (by omega) hxg).mono fun e we ⟨he, hke⟩ => ⟨_, he, ?_⟩⟩
  have k9e := k9d.trans hke
  have b10e := hke.blk b10d (fun h => h)
  refine ⟨x.cut.id, q1, x.cut.gs.length, d1, x.cut.d, x.cut.by_, x.cut.ct, x.cut.fr, x.cut.ar, AtL_block b10e rfl, ?_⟩
  refine ⟨(due_any (x := x.cut) (p := q1) (c := d1) (hf.kp (hk9.trans k9e) (fun _ _ _ h => h)) (hsq1.kp k9e (fun _ _ _ h => h)) h64 h80 (by omega) hxok hdlb har).mono fun e wf ⟨he, hkf⟩ => ?_⟩
  have k9f := k9e.trans hkf
  have b10f := hkf.blk b10e (fun h => h)
  generalize hrs : rsnS nb' mb ds' es x.cut = rs at *
  have fin : ∀ (due : Int) (is : Bool), e = .returned (.tuple #[.int .i64 due, .bool is]) → (is = true → due = dueS dl x.cut.ar ∧ rs = 0) → (is = false → due = 0 ∧ rs ≠ 0) → (∃ (x_45 : Int) (x_46 : Bool), e = .returned (.tuple #[.int .i64 x_45, .bool x_46]) ∧ x_45 = due ∧ x_46 = is) := fun due is he _ _ => ⟨due, is, he, rfl, rfl⟩
  have hdue : ∃ (due : Int) (is : Bool), e = .returned (.tuple #[.int .i64 due, .bool is]) ∧ (is = true → due = dueS dl x.cut.ar ∧ rs = 0) ∧ (is = false → due = 0 ∧ rs ≠ 0) := by
    by_cases h : rs = 0
    · rw [if_pos h] at he
      exact ⟨_, _, he, fun _ => ⟨rfl, h⟩, (fun h => by cases h)⟩
    · rw [if_neg h] at he
      exact ⟨_, _, he, (fun h => by cases h), fun _ => ⟨rfl, h⟩⟩
  clear fin
  obtain ⟨due, is, he, hi1, hi2⟩ := hdue
  refine ⟨due, is, he, x.cut.id, q1, x.cut.gs.length, d1, x.cut.d, x.cut.by_, x.cut.ct, x.cut.fr, x.cut.ar, AtL_block b10f rfl, ?_⟩
  refine ⟨(reason_any (x := x.cut) (p := q1) (c := d1) (hf.kp (hk9.trans k9f) (fun _ _ _ h => h)) (hsq1.kp k9f (fun _ _ _ h => h)) h64 h80 (by omega) hxok).mono fun e wg ⟨he, hkg⟩ => ⟨_, he, ?_⟩⟩
  rw [hrs]
  have k9g := k9f.trans hkg
  have k8g : K0 w8 wg := hk9.trans k9g
  refine bsp_intro (fun h => ?_) (fun _ => ?_)
  · exfalso
    cases is with
    | true => obtain ⟨_, h0⟩ := hi1 rfl; subst h0; simp at h
    | false =>
      obtain ⟨_, h0⟩ := hi2 rfl
      have : (rs == 0) = false := by simpa using h0
      rw [this] at h
      simp at h
  refine ⟨(known_any wg (hG.kp (k8.trans k8g) (fun h => h))).mono fun e wh ⟨he, hkh⟩ => ⟨_, he, ?_⟩⟩
  have k8h := k8g.trans hkh
  have b6h := (hk8.trans k8h).blk b67 (fun h => h)
  have b11h := ((hke.trans hkf).trans (hkg.trans hkh)).blk b11d (fun h => h)
  refine ⟨nb', ps', mb, dl, p2, ds'.length, c2, gimp_intro fun _ => AtL_block b6h rfl, x.cut.id, q2, x.cut.gs.length, d2, x.cut.d, x.cut.by_, x.cut.ct, x.cut.fr, x.cut.ar, gimp_intro fun _ => AtL_block b11h rfl, bsp_intro (fun _ => ?_) (fun h => absurd h (by decide))⟩
  refine bsp_intro (fun hi => ?_) (fun hi => ⟨?_, k8.trans k8h⟩)
  · refine ⟨(rdue_any nb' ps' mb dl p2 ds'.length c2 x.cut q2 d2 wh hdlb har).mono fun e wi ⟨he, hki⟩ => ⟨_, he, ?_, (k8.trans k8h).trans hki⟩⟩
    rw [(hi1 hi).1]
    simp
  · rw [(hi2 hi).1, hi]
    simp

end Go.Proofs.YtcpjajjocmpkjaaDoor
