/- The statement FeedruleControls on worlds: it returns true and leaves what was there as it was. -/
import Derived.Test.YtcpjajjocmpkjaaDoorConv
namespace Go.Proofs.YtcpjajjocmpkjaaDoor
open Go.RowKit

theorem rsn_ctl {nb : ByteArray} {mb : Int} {ds : List ByteArray} {es : List Ent} {x : It} (h : x.ct = true) : (rsnS nb mb ds es x == 0) = !(x.fr.toList == nb.toList) := by
  unfold rsnS rsnB
  rw [h]
  cases x.fr.toList == nb.toList <;> simp
theorem rsn_from {nb : ByteArray} {mb : Int} {ds : List ByteArray} {es : List Ent} {x : It} (h : x.fr = nb) : rsnS nb mb ds es x = 1 := by
  unfold rsnS
  rw [if_pos (by unfold rsnB; rw [h]; simp)]

set_option maxHeartbeats 1000000 in
theorem controls_any (nb ps : ByteArray) (mb dl : Int) (p : Option Addr) (c : Nat) (ds : List ByteArray) (x : It) (q : Option Addr) (cx : Nat) (w : World) (hG : GW w) (hds : StrP w p ds) (hg : StrP w q x.gs) (hc : x.gs.length ≤ cx) (hx : ∀ z ∈ x.gs, z.size ≤ 9223372036854775807) (har : -9223372036854775808 ≤ x.ar ∧ x.ar ≤ 9223372036854775807) :
    Calls Tryd.prog 4 #[.agg #[.string nb, .string ps, .int .i64 mb, .int .i64 dl, .slice p ds.length c], .agg (x.cells q cx)] w fun e w' => e = .returned (.bool true) ∧ K0 w w' := by
  refine vc_controls nb ps mb dl p ds.length c (x.cells q cx) w _ ?_
  intro n1 w1 hn1 n w2 hn
  have k2 : K0 w w2 := (hn1.kp _).trans (hn.kp _)
  have b1 := (hn.kp (fun _ => False)).blk hn1.block (fun h => h)
  refine ⟨nb, ps, mb, dl, p, ds.length, c, AtL_block b1 rfl, ⟨(to_any nb ps mb dl p c ds w2 (hds.kp k2 (fun _ _ _ h => h))).mono fun e w3 he => ?_⟩⟩
  obtain ⟨p1, p2, c1, c2, he, ho1, ho2, hne, hk3⟩ := he
  refine ⟨_, _, _, _, _, _, _, _, _, _, _, _, _, _, he, fun n5 w4 hn4 n6 w5 hn5 => ?_⟩
  have k35 := (hn4.kp (fun _ => False)).trans (hn5.kp (fun _ => False))
  have b54 := (hn5.kp (fun _ => False)).blk hn4.block (fun h => h)
  have g5 : w3.heap.size ≤ n5 := hn4.ge
  have g6 : n5 < n6 := by have := hn4.size; have := hn5.ge; omega
  refine ⟨WrL_block b54 (by simp), fun w6 hp6 => ?_⟩
  have b56 := hp6.full b54 rfl
  have b66 := hp6.kp.blk hn5.block (fun e => by omega)
  refine ⟨WrL_block b66 (by simp), fun w7 hp7 => ?_⟩
  have b57 := hp7.kp.blk b56 (fun e => by omega)
  have k37 : K0 w3 w7 := (k35.fresh hp6.kp (fun i hi e => by omega)).fresh hp7.kp (fun i hi e => by omega)
  have k7 : K0 w w7 := (k2.trans hk3).trans k37
  generalize hnb : nb.extract 0 (min nb.size 40) = nb' at *
  generalize hps : ps.extract 0 (min ps.size 300) = ps' at *
  have hps' : ps'.size ≤ 300 := by rw [← hps, ByteArray.size_extract]; omega
  have hd10 : (ds.take 10).length ≤ 10 := by rw [List.length_take]; omega
  generalize ds.take 10 = ds' at *
  obtain ⟨_, hc1, hs1, _, _⟩ := own_strP (owns_kp ho1 k37 (fun _ _ h => h))
  refine ⟨nb', ps', mb, dl, p1, ds'.length, c1, AtL_block b57 rfl, ⟨(fcompile_any nb' ps' mb dl p1 c1 ds' w7 (by omega) (hG.kp k7 (fun h => h)) hs1 hc1 (by omega)).mono fun e w8 ⟨hk8, he⟩ => ?_⟩⟩
  have k8 : K0 w w8 := k7.trans hk8
  have gw8 := hG.kp k8 (fun h => h)
  rcases he with ⟨h0, he⟩ | ⟨h0, b, es, hL, he, hf⟩
  · refine ⟨_, _, he, bsp_intro (fun _ => ?_) (fun h => ?_)⟩
    · exact ⟨(known_any w8 gw8).mono fun e w9 ⟨he, hk9⟩ => ⟨_, he, rfl, k8.trans hk9⟩⟩
    · exfalso; simp at h
  refine ⟨_, _, he, bsp_intro (fun h => absurd h (by simp)) (fun _ => ?_)⟩
  obtain ⟨h64, h80⟩ := listR_ok hL
  have hdlb : 0 ≤ dl ∧ dl ≤ 20160 := by
    unfold chkS at h0
    split at h0
    · rename_i h; exact absurd h0 h
    · rw [hL] at h0
      simp only at h0
      split at h0
      · cases h0
      · rename_i h; omega
  have bn8 : w8.heap[n]? = some (.cells (x.cells q cx) 27 (0, 0)) := ((hk3.trans k37).trans hk8).blk hn.block (fun h => h)
  refine ⟨x.id, q, x.gs.length, cx, x.d, x.by_, x.ct, x.fr, x.ar, AtL_block bn8 rfl, ⟨(item_any x q cx w8 (hg.kp k8 (fun _ _ _ h => h)) hc).mono fun e w9 he => ?_⟩⟩
  obtain ⟨q1, q2, d1, d2, he, hr1, hr2, hk9⟩ := he
  refine ⟨_, _, _, _, _, _, _, _, _, _, _, _, _, _, _, _, _, _, he, fun n10 wa hna n11 wb hnb' => ?_⟩
  have ga : w9.heap.size ≤ n10 := hna.ge
  have gb : n10 < n11 := by have := hna.size; have := hnb'.ge; omega
  have b10b := (hnb'.kp (fun _ => False)).blk hna.block (fun h => h)
  refine ⟨WrL_block b10b (by simp), fun wc hpc => ?_⟩
  have b10c : wc.heap[n10]? = some (.cells (x.cut.cells q1 d1) 39 (0, 0)) := hpc.full b10b rfl
  have b11c := hpc.kp.blk hnb'.block (fun e => by omega)
  refine ⟨WrL_block b11c (by simp), fun wd hpd => ?_⟩
  have b10d := hpd.kp.blk b10c (fun e => by omega)
  have k9d : K0 w9 wd := (((hna.kp (fun _ => False)).trans (hnb'.kp _)).fresh hpc.kp (fun i hi e => by omega)).fresh hpd.kp (fun i hi e => by omega)
  clear hna hnb' b10b hpc b10c b11c hpd
  refine ⟨cell_wr b10d (by rw [It.size]; decide), fun we hpe => ?_⟩
  let xt : It := { x.cut with ct := true }
  have b10e : we.heap[n10]? = some (.cells (xt.cells q1 d1) 39 (0, 0)) := hpe.block b10d
  have k9e : K0 w9 we := k9d.fresh hpe.kp (fun i hi e => by omega)
  have hxg : ∀ z ∈ x.cut.gs, z.size ≤ 9223372036854775807 := fun z hz => hx z (List.mem_of_mem_take hz)
  have hxl : x.cut.gs.length ≤ 20 := by show (x.gs.take 20).length ≤ 20; rw [List.length_take]; omega
  have hf9 := hf.kp hk9 (fun _ _ _ h => h)
  obtain ⟨_, _, hsq, _, _⟩ := own_strP hr1
  have b5e : we.drew.heap[n5]? = some (.cells #[.string nb', .string ps', .int .i64 mb, .int .i64 dl, .slice p1 ds'.length c1] 28 (0, 0)) := blk_drew ((hk8.trans (hk9.trans k9e)).blk b57 (fun h => h))
  have hfe : FeedR (fun k => w7.heap.size ≤ k) we.drew b nb' ps' mb dl ds' es := hf9.kp k9e.drew (fun _ _ _ h => h)
  have hse : StrP we.drew q1 x.cut.gs := hsq.kp k9e.drew (fun _ _ _ h => h)
  refine ⟨fun w' => K0 we.drew w', .refl _ _, xt.id, q1, xt.gs.length, d1, xt.d, xt.by_, xt.ct, xt.fr, xt.ar, fun w' h => AtL_block (h.blk (blk_drew b10e) (fun h => h)) rfl, xt.fr, fun w' h => cell_at (h.blk (blk_drew b10e) (fun h => h)) rfl, nb', fun w' h => cell_at (h.blk b5e (fun h => h)) rfl,
    ⟨(reason_any (x := xt) (p := q1) (c := d1) hfe hse h64 h80 (by omega) ⟨by show x.cut.gs.length ≤ _; omega, hxg⟩).mono fun e wf ⟨he, hkf⟩ => ⟨_, he, hkf, ?_⟩⟩⟩
  rw [rsn_ctl (x := xt) rfl]
  refine bsp_intro (fun h => absurd h (by simp)) (fun _ => ?_)
  have b10f := blk_drew (hkf.blk (blk_drew b10e) (fun h => h))
  have b5f := blk_drew (hkf.blk b5e (fun h => h))
  refine ⟨fun w' => w'.heap[n5]? = some (.cells #[.string nb', .string ps', .int .i64 mb, .int .i64 dl, .slice p1 ds'.length c1] 28 (0, 0)), b5f, nb', fun w' h => cell_at h rfl, cell_wr b10f (by rw [It.size]; decide), fun wg hpg => ?_⟩
  have hn5 : n5 < w9.heap.size := Nat.lt_of_lt_of_le (block_lt b57) (Nat.le_trans hk8.size hk9.size)
  have b10g : wg.heap[n10]? = some (.cells (({ xt with ct := false } : It).cells q1 d1) 39 (0, 0)) := hpg.block b10f
  refine ⟨hpg.kp.blk b5f (fun e => by omega), cell_wr b10g (by rw [It.size]; decide), fun wh hph => ?_⟩
  let xf : It := { x.cut with ct := false, fr := nb' }
  have b10h : wh.heap[n10]? = some (.cells (xf.cells q1 d1) 39 (0, 0)) := hph.block b10g
  have k9h : K0 w9 wh := (((k9e.drew.trans hkf).drew).fresh hpg.kp (fun i hi e => by omega)).fresh hph.kp (fun i hi e => by omega)
  have hr1' : rsnS nb' mb ds' es xf = 1 := rsn_from rfl
  have hxok : xf.ok := ⟨by show x.cut.gs.length ≤ _; omega, hxg⟩
  refine ⟨xf.id, q1, xf.gs.length, d1, xf.d, xf.by_, xf.ct, xf.fr, xf.ar, AtL_block b10h rfl, ⟨(due_any (x := xf) (p := q1) (c := d1) (hf9.kp k9h (fun _ _ _ h => h)) (hsq.kp k9h (fun _ _ _ h => h)) h64 h80 (by omega) hxok hdlb har).mono fun e wi ⟨he, hki⟩ => ?_⟩⟩
  rw [hr1', if_neg (by decide)] at he
  refine ⟨_, _, he, ⟨(known_any wi (hG.kp ((k8.trans hk9).trans (k9h.trans hki)) (fun h => h))).mono fun e wj ⟨he, hkj⟩ => ⟨_, he, ?_⟩⟩⟩
  have k9j := (k9h.trans hki).trans hkj
  have b10j := (hki.trans hkj).blk b10h (fun h => h)
  refine ⟨xf.id, q1, xf.gs.length, d1, xf.d, xf.by_, xf.ct, xf.fr, xf.ar, gimp_intro fun _ => AtL_block b10j rfl, bsp_intro (fun _ => ?_) (fun h => absurd h (by decide))⟩
  refine ⟨(reason_any (x := xf) (p := q1) (c := d1) (hf9.kp k9j (fun _ _ _ h => h)) (hsq.kp k9j (fun _ _ _ h => h)) h64 h80 (by omega) hxok).mono fun e wk ⟨he, hkk⟩ => ⟨_, he, ?_, ((k8.trans hk9).trans k9j).trans hkk⟩⟩
  rw [hr1']
  rfl

end Go.Proofs.YtcpjajjocmpkjaaDoor
