/- The statement FeedruleChecks on worlds: it returns true and leaves what was there as it was. -/
import Derived.Test.YtcpjajjocmpkjaaDoorRsn
namespace Go.Proofs.YtcpjajjocmpkjaaDoor
open Go.RowKit

/-- An element of a row is written. -/
theorem own_put {w : World} {base : Nat} {e : TypeId} {n c : Nat} {p : Option Addr} {xs : List Value} (h : w.ownsRow base e 1 (.slice p n c) n xs) {k : Nat} (hk : k < n) :
    ∃ g, p = some ⟨g, 0, none⟩ ∧ (Value.slice p n c).ownBlock = some g ∧ ((∃ u, w.cell? ⟨g, 0 + k, none⟩ = some u) ∧ w.frozen? ⟨g, 0 + k, none⟩ = false) ∧
      ∀ (v : Value) (w1 : World), PutB w g (0 + k) [v] w1 → w1.ownsRow base e 1 (.slice p n c) n (xs.set k v) := by
  have hl := h.1
  rcases h.2 with ⟨_, hn⟩ | ⟨g, cap, cur, he, hb, hg, hnc, hcm, hsz, ht⟩
  · omega
  · simp only [Value.slice.injEq, true_and] at he
    obtain ⟨rfl, rfl⟩ := he
    have hkc : k < cur.size := by rw [hsz]; omega
    refine ⟨g, rfl, rfl, by rw [Nat.zero_add]; exact cell_wr hg hkc, fun v w1 hp => ⟨by rw [List.length_set]; exact hl, .inr ⟨g, _, _, rfl, hb, hp.block hg, hnc, hcm, ?_, ?_⟩⟩⟩
    · simp only [putL, Nat.zero_add, List.size_toArray, List.length_set, Array.length_toList]; exact hsz
    · simp only [putL, Nat.zero_add]
      rw [← ht, List.take_set]
theorem FeedR.mono {D D' : Nat → Prop} {w : World} {b : Nat} {nb ps : ByteArray} {mb dl : Int} {ds : List ByteArray} {es : List Ent} (h : FeedR D w b nb ps mb dl ds es) (hd : ∀ k, D k → k < w.heap.size → D' k) : FeedR D' w b nb ps mb dl ds es := by
  obtain ⟨p, n, c, lb, h1, h2, h3, h4, h5, h6, h7⟩ := h
  exact ⟨p, n, c, lb, h1, hd b h2 (block_lt h1), h3, h4, fun k o e => ⟨hd k (h5 k o e).1 (h5 k o e).2, (h5 k o e).2⟩, h6, h7.mono hd⟩

theorem frule_any {D : Nat → Prop} {w : World} {b : Nat} {nb ps : ByteArray} {mb dl : Int} {ds : List ByteArray} {es : List Ent} (hf : FeedR D w b nb ps mb dl ds es) (hl : ds.length ≤ 1073741824) :
    Calls Tryd.prog 25 #[.pointer (some ⟨b, 0, none⟩)] w fun e w' => ∃ p' c', e = .returned (.agg #[.string nb, .string ps, .int .i64 mb, .int .i64 dl, .slice p' ds.length c']) ∧
      w'.ownsRow w.heap.size 9 1 (.slice p' ds.length c') ds.length (ds.map Value.string) ∧ K0 w w' := by
  obtain ⟨p, n, c, lb, h1, h2, h3, h4, h5, h6, h7⟩ := hf
  subst h3
  refine vc_frule b 0 w _ ?_
  intro n1 w1 hn1
  have k1 : K0 w w1 := hn1.kp _
  refine ⟨nb, ps, mb, dl, p, ds.length, c, AtL_block (k1.blk h1 (fun h => h)) rfl, fun n2 w2 hn2 => ⟨WrL_block hn2.block (by simp), fun w3 hp3 => ?_⟩⟩
  have g1 : w.heap.size ≤ n1 := hn1.ge
  have g2 : n1 < n2 := by have := hn1.size; have := hn2.ge; omega
  have b23 := hp3.full hn2.block rfl
  have b13 := hp3.kp.blk ((hn2.kp (fun _ => False)).blk hn1.block (fun h => h)) (fun e => by omega)
  have k3 : K0 w w3 := (k1.trans (hn2.kp _)).fresh hp3.kp (fun i hi e => by omega)
  refine ⟨p, ds.length, c, cell_at b23 rfl, ⟨(clone_any p c ds w3 (h4.kp k3 (fun _ _ _ h => h)) hl).mono fun e w4 ⟨p', c', he, ho, hk4⟩ => ⟨_, _, _, he, ?_⟩⟩⟩
  have b24 := hk4.blk b23 (fun h => h)
  have b14 := hk4.blk b13 (fun h => h)
  have l2 : n2 < w3.heap.size := block_lt b23
  refine ⟨cell_wr b24 (by simp), fun w5 hp5 => ?_⟩
  have b25 : w5.heap[n2]? = some (.cells #[.string nb, .string ps, .int .i64 mb, .int .i64 dl, .slice p' ds.length c'] 28 (0, 0)) := hp5.block b24
  have b15 := hp5.kp.blk b14 (fun e => by omega)
  refine ⟨_, _, _, _, _, _, _, AtL_block b25 rfl, WrL_block b15 (by simp), fun w6 hp6 => ?_⟩
  have b16 := hp6.full b15 rfl
  refine ⟨_, _, _, _, _, _, _, AtL_block b16 rfl, p', c', rfl, ?_, ?_⟩
  · exact own_base (owns_kp (owns_kp ho hp5.kp (fun k hk e => by have := own_ge ho hk; omega)) hp6.kp (fun k hk e => by have := own_ge ho hk; omega)) k3.size
  · exact ((k3.trans hk4).fresh hp5.kp (fun i hi e => by omega)).fresh hp6.kp (fun i hi e => by omega)

set_option maxHeartbeats 2000000 in
theorem checks_any (nb ps : ByteArray) (mb dl : Int) (p : Option Addr) (c : Nat) (ds : List ByteArray) (w : World) (hG : GW w) (hds : StrP w p ds) (hdz : ∀ z ∈ ds, z.size ≤ 9223372036854775807) :
    Calls Tryd.prog 7 #[.agg #[.string nb, .string ps, .int .i64 mb, .int .i64 dl, .slice p ds.length c]] w fun e w' => e = .returned (.bool true) ∧ K0 w w' := by
  refine vc_checks nb ps mb dl p ds.length c w _ ?_
  intro n1 w2 hn1
  have k2 : K0 w w2 := hn1.kp _
  refine ⟨nb, ps, mb, dl, p, ds.length, c, AtL_block hn1.block rfl, ⟨(to_any nb ps mb dl p c ds w2 (hds.kp k2 (fun _ _ _ h => h))).mono fun e w3 he => ?_⟩⟩
  obtain ⟨p1, p2, c1, c2, he, ho1, ho2, hne, hk3⟩ := he
  refine ⟨_, _, _, _, _, _, _, _, _, _, _, _, _, _, he, fun n3 w4 hn4 n4 w5 hn5 => ?_⟩
  have k35 := (hn4.kp (fun _ => False)).trans (hn5.kp (fun _ => False))
  have b54 := (hn5.kp (fun _ => False)).blk hn4.block (fun h => h)
  have g5 : w3.heap.size ≤ n3 := hn4.ge
  have g6 : n3 < n4 := by have := hn4.size; have := hn5.ge; omega
  refine ⟨WrL_block b54 (by simp), fun w6 hp6 => ?_⟩
  have b56 := hp6.full b54 rfl
  have b66 := hp6.kp.blk hn5.block (fun e => by omega)
  refine ⟨WrL_block b66 (by simp), fun w7 hp7 => ?_⟩
  have b57 := hp7.kp.blk b56 (fun e => by omega)
  have b67 := hp7.full b66 rfl
  have k37 : K0 w3 w7 := (k35.fresh hp6.kp (fun i hi e => by omega)).fresh hp7.kp (fun i hi e => by omega)
  have k7 : K0 w w7 := (k2.trans hk3).trans k37
  generalize hnb : nb.extract 0 (min nb.size 40) = nb' at *
  generalize hps : ps.extract 0 (min ps.size 300) = ps' at *
  have hps' : ps'.size ≤ 300 := by rw [← hps, ByteArray.size_extract]; omega
  have hd10 : (ds.take 10).length ≤ 10 := by rw [List.length_take]; omega
  have hdz' : ∀ z ∈ ds.take 10, z.size ≤ 9223372036854775807 := fun z hz => hdz z (List.mem_of_mem_take hz)
  generalize ds.take 10 = ds' at *
  have o17 := owns_kp ho1 k37 (fun _ _ h => h)
  have o27 := owns_kp ho2 k37 (fun _ _ h => h)
  obtain ⟨_, hc1, hs1, _, _⟩ := own_strP o17
  obtain ⟨_, hc2, hs2, _, _⟩ := own_strP o27
  have gx : ∀ k, (Value.slice p1 ds'.length c1).ownBlock = some k → w.heap.size ≤ k ∧ k < w3.heap.size := fun k hk => ⟨Nat.le_trans k2.size (own_ge ho1 hk), own_lt ho1 hk⟩
  have gw : ∀ k, (Value.slice p2 ds'.length c2).ownBlock = some k → k < w3.heap.size := fun k hk => own_lt ho2 hk
  clear hn1 hn4 hn5 hp6 hp7 b54 b56 b66 k35
  refine ⟨nb', ps', mb, dl, p2, ds'.length, c2, AtL_block b67 rfl, ⟨(rcheck_any nb' ps' mb dl p2 c2 ds' w7 (by omega) hs2 hc2 (by omega) hdz').mono fun e w8 ⟨he, hk8⟩ => ⟨_, he, ?_⟩⟩⟩
  refine ⟨nb', ps', mb, dl, p1, ds'.length, c1, AtL_block (hk8.blk b57 (fun h => h)) rfl, ⟨(fcompile_any nb' ps' mb dl p1 c1 ds' w8 (by omega) (hG.kp (k7.trans hk8) (fun h => h)) (hs1.kp hk8 (fun _ _ _ h => h)) hc1 (by omega)).mono fun e w9 ⟨hk9, he⟩ => ?_⟩⟩
  have k79 : K0 w7 w9 := hk8.trans hk9
  have hpe : ∃ (f : Option Addr) (er : Int), e = .returned (.tuple #[.pointer f, .int .i64 er]) ∧ er = chkS nb' ps' mb dl ds' ∧ ((f = none ∧ er ≠ 0) ∨ (er = 0 ∧ ∃ b es, f = some ⟨b, 0, none⟩ ∧ listR ps' = .inl es ∧ FeedR (fun k => w8.heap.size ≤ k) w9 b nb' ps' mb dl ds' es)) := by
    rcases he with ⟨h0, he⟩ | ⟨h0, b, es, hL, he, hf⟩
    · exact ⟨_, _, he, rfl, .inl ⟨rfl, h0⟩⟩
    · exact ⟨_, _, he, h0.symm, .inr ⟨rfl, b, es, rfl, hL, hf⟩⟩
  clear he
  obtain ⟨f, er, he, her, hcase⟩ := hpe
  refine ⟨f, er, he, nb', ps', mb, dl, p1, ds'.length, c1, AtL_block (k79.blk b57 (fun h => h)) rfl, ⟨(check_any nb' ps' mb dl p1 c1 ds' w9 (by omega) (hG.kp (k7.trans k79) (fun h => h)) (hs1.kp k79 (fun _ _ _ h => h)) hc1 (by omega)).mono fun e wa ⟨he, hka⟩ => ⟨_, he, ?_⟩⟩⟩
  rw [← her]
  have k7a : K0 w7 wa := k79.trans hka
  rcases hcase with ⟨rfl, h0⟩ | ⟨h0, b, es, rfl, hL, hf⟩
  · refine bsp_intro (fun h => ?_) (fun _ => ?_)
    · exfalso; simp [h0] at h
    · exact ⟨(known_any wa (hG.kp (k7.trans k7a) (fun h => h))).mono fun e wb ⟨he, hkb⟩ => ⟨_, he, rfl, (k7.trans k7a).trans hkb⟩⟩
  refine bsp_intro (fun h => ?_) (fun _ => bsp_intro (fun h => absurd h (by simp)) (fun _ => ?_))
  · exfalso; simp [h0] at h
  have hfa : FeedR (fun k => w8.heap.size ≤ k ∧ k < wa.heap.size) wa b nb' ps' mb dl ds' es := (hf.kp hka (fun _ _ _ h => h)).mono fun k h1 h2 => ⟨h1, h2⟩
  refine ⟨(frule_any hfa (by omega)).mono fun e wb ⟨py, cy, he, hoy, hkb⟩ => ⟨_, _, _, _, _, _, _, he, fun n5 wc hnc => ⟨WrL_block hnc.block (by simp), fun wd hpd => ?_⟩⟩⟩
  have b5d := hpd.full hnc.block rfl
  have g5' : wb.heap.size ≤ n5 := hnc.ge
  have kbd : K0 wb wd := (hnc.kp (fun _ => False)).fresh hpd.kp (fun i hi e => by omega)
  have kad : K0 wa wd := hkb.trans kbd
  have k7d : K0 w7 wd := k7a.trans kad
  have b4d := k7d.blk b67 (fun h => h)
  have b3d := k7d.blk b57 (fun h => h)
  have oyd := owns_kp hoy kbd (fun _ _ h => h)
  have oxd := owns_kp o17 k7d (fun _ _ h => h)
  have owd := owns_kp o27 k7d (fun _ _ h => h)
  have gy : ∀ k, (Value.slice py ds'.length cy).ownBlock = some k → wa.heap.size ≤ k ∧ k < wb.heap.size := fun k hk => ⟨own_ge hoy hk, own_lt hoy hk⟩
  have s37 := k37.size
  have s7a := k7a.size
  have s78 := hk8.size
  have sab := hkb.size
  have l4 : n4 < w7.heap.size := block_lt b67
  have swd : w.heap.size ≤ w2.heap.size := k2.size
  have sw3 := hk3.size
  refine ⟨py, ds'.length, cy, cell_at b5d rfl, p2, ds'.length, c2, cell_at b4d rfl, nb', gimp_intro fun _ => cell_at b5d rfl, nb', gimp_intro fun _ => cell_at b4d rfl, ps', gimp_intro fun _ => cell_at b5d rfl, ps', gimp_intro fun _ => cell_at b4d rfl, mb, gimp_intro fun _ => cell_at b5d rfl, mb, gimp_intro fun _ => cell_at b4d rfl, dl, gimp_intro fun _ => cell_at b5d rfl, dl, gimp_intro fun _ => cell_at b4d rfl, bsp_intro (fun h => ?_) (fun _ => ?_)⟩
  · exfalso; simp at h
  let M : Nat → Prop := fun i => (Value.slice p1 ds'.length c1).ownBlock = some i ∨ (Value.slice py ds'.length cy).ownBlock = some i
  have hMlt : ∀ i, M i → w.heap.size ≤ i ∧ i < n5 := fun i hi => by
    rcases hi with h | h
    · have := gx i h; omega
    · have := gy i h; have := k7.size; omega
  have kwM : ∀ wx, Kp M wd wx → K0 w wx := fun wx hx => (k7.trans k7d).fresh hx (fun i hi e => by have := hMlt i e; omega)
  refine count1 ds'.length (by omega) (fun k wx => Kp M wd wx ∧ ∃ ys xs : List Value, wx.ownsRow wa.heap.size 9 1 (.slice py ds'.length cy) ds'.length ys ∧ wx.ownsRow w2.heap.size 9 1 (.slice p1 ds'.length c1) ds'.length xs ∧ ∀ j z, k ≤ j → ds'[j]? = some z → ys[j]? = some (.string z)) ⟨.refl _ _, _, _, oyd, oxd, fun j z _ hj => by rw [List.getElem?_map, hj]; rfl⟩ ?_
  rintro I m k wx hk ⟨kx, ys, xs, oy, ox, hys⟩ next
  have b5x : wx.heap[n5]? = some (.cells #[.string nb', .string ps', .int .i64 mb, .int .i64 dl, .slice py ds'.length cy] 28 (0, 0)) := kx.blk b5d (fun e => by have := hMlt _ e; omega)
  have b4x := kx.blk b4d (fun e => by
    rcases e with e | e
    · have := gx _ e; omega
    · have := gy _ e; omega)
  have b3x := kx.blk b3d (fun e => by
    rcases e with e | e
    · have := gx _ e; omega
    · have := gy _ e; omega)
  have owx := owns_kp owd kx (fun i hi e => by
    rcases e with e | e
    · exact hne i e hi
    · have := gy _ e; have := gw _ hi; omega)
  obtain ⟨_, _, hsw, _, _⟩ := own_strP owx
  refine ⟨py, ds'.length, cy, cell_at b5x rfl, bsp_intro (fun hlt => ?_) (fun hge => ?_)⟩
  · have hlt : k < ds'.length := by simpa using hlt
    obtain ⟨z, hz⟩ : ∃ z, ds'[k]? = some z := ⟨_, List.getElem?_eq_getElem hlt⟩
    obtain ⟨gy', rfl, hgy, hwy, hsy⟩ := own_put (show wx.drew.drew.ownsRow _ _ _ _ _ _ from oy) hlt
    obtain ⟨gx', rfl, hgx, hwx, hsx⟩ := own_put ox hlt
    obtain ⟨gw', ow', rfl, hcw⟩ := hsw k z hz
    obtain ⟨gy2, hgy2, hcy⟩ := own_cellL oy (hys k z (Nat.le_refl _) hz)
    simp only [Option.some.injEq, Addr.mk.injEq, and_true] at hgy2
    subst hgy2
    have lx := gx _ hgx
    have ly := gy _ hgy
    rw [Int.toNat_natCast]
    refine ⟨_, ds'.length, cy, cell_at (blk_drew b5x) rfl, ?_⟩
    show (0 ≤ (k : Int) ∧ (k : Int) < (ds'.length : Int)) ∧ _
    refine ⟨by omega, z, by rw [Nat.zero_add]; exact hcy, _, ds'.length, c2, cell_at (blk_drew b4x) rfl, ?_⟩
    show (0 ≤ (k : Int) ∧ (k : Int) < (ds'.length : Int)) ∧ _
    refine ⟨by omega, z, hcw, bsp_intro (fun h => ?_) (fun _ => ?_)⟩
    · exfalso; simp at h
    refine ⟨fun wz => wz.heap[n5]? = some (.cells #[.string nb', .string ps', .int .i64 mb, .int .i64 dl, .slice (some ⟨gy', 0, none⟩) ds'.length cy] 28 (0, 0)) ∧ wz.heap[n3]? = some (.cells #[.string nb', .string ps', .int .i64 mb, .int .i64 dl, .slice (some ⟨gx', 0, none⟩) ds'.length c1] 28 (0, 0)), ⟨blk_drew (blk_drew b5x), blk_drew (blk_drew b3x)⟩, _, ds'.length, cy, fun wz h => cell_at h.1 rfl, _, ds'.length, c1, fun wz h => cell_at h.2 rfl, ?_⟩
    show (0 ≤ (k : Int) ∧ (k : Int) < (ds'.length : Int)) ∧ _
    refine ⟨by omega, hwy, fun we hpe => ⟨⟨hpe.kp.blk (blk_drew (blk_drew b5x)) (fun e => by omega), hpe.kp.blk (blk_drew (blk_drew b3x)) (fun e => by omega)⟩, ?_⟩⟩
    show (0 ≤ (k : Int) ∧ (k : Int) < (ds'.length : Int)) ∧ _
    have oye := hsy _ we hpe
    have oxe : we.ownsRow w2.heap.size 9 1 (.slice (some ⟨gx', 0, none⟩) ds'.length c1) ds'.length xs := owns_kp (show wx.drew.drew.ownsRow _ _ _ _ _ _ from ox) hpe.kp (fun i hi e => by
      simp only [Value.ownBlock, Option.some.injEq] at hi
      omega)
    obtain ⟨gx2, hgx2, _, hwx2, hsx2⟩ := own_put oxe hlt
    simp only [Option.some.injEq, Addr.mk.injEq, and_true] at hgx2
    subst hgx2
    refine ⟨by omega, hwx2, fun wf hpf => next hlt wf ⟨?_, _, _, owns_kp oye hpf.kp (fun i hi e => ?_), hsx2 _ wf hpf, fun j z' hj hz' => ?_⟩⟩
    · exact ((kx.drew.drew).trans (hpe.kp.mono (fun i _ e => .inr (by rw [e]; rfl)))).trans (hpf.kp.mono (fun i _ e => .inl (by rw [e]; rfl)))
    · simp only [Value.ownBlock, Option.some.injEq] at hi
      omega
    · rw [List.getElem?_set, if_neg (by omega)]
      exact hys j z' (by omega) hz'
  · have hfx := hfa.kp kad (fun _ _ _ h => h) |>.kp kx (fun i h1 _ e => by
      rcases e with e | e
      · have := gx _ e; omega
      · have := gy _ e; omega)
    refine ⟨(frule_any hfx (by omega)).mono fun e we ⟨pz, cz, he, hoz, hke⟩ => ⟨_, _, _, _, _, _, _, he, fun n7 wf hnf => ⟨WrL_block hnf.block (by simp), fun wg hpg => ?_⟩⟩⟩
    have b7g := hpg.full hnf.block rfl
    have keg : K0 we wg := (hnf.kp (fun _ => False)).fresh hpg.kp (fun i hi e => by have := hnf.ge; omega)
    have kxg : K0 wx wg := hke.trans keg
    obtain ⟨_, _, hsz, _, _⟩ := own_strP (owns_kp hoz keg (fun _ _ h => h))
    refine count1 ds'.length (by omega) (fun k wy => K0 wg wy) (.refl _ _) ?_
    intro I m k wy hk ky next
    have b7y := ky.blk b7g (fun h => h)
    have b4y := (kxg.trans ky).blk b4x (fun h => h)
    refine ⟨pz, ds'.length, cz, cell_at b7y rfl, bsp_intro (fun hlt => ?_) (fun _ => ?_)⟩
    · have hlt : k < ds'.length := by simpa using hlt
      obtain ⟨z, hz⟩ : ∃ z, ds'[k]? = some z := ⟨_, List.getElem?_eq_getElem hlt⟩
      obtain ⟨gz, oz, rfl, hcz⟩ := hsz.kp ky (fun _ _ _ h => h) k z hz
      obtain ⟨gw', ow', rfl, hcw⟩ := hsw.kp (kxg.trans ky) (fun _ _ _ h => h) k z hz
      rw [Int.toNat_natCast]
      refine ⟨_, ds'.length, cz, cell_at (blk_drew b7y) rfl, ?_⟩
      show (0 ≤ (k : Int) ∧ (k : Int) < (ds'.length : Int)) ∧ _
      refine ⟨by omega, z, hcz, _, ds'.length, c2, cell_at (blk_drew b4y) rfl, ?_⟩
      show (0 ≤ (k : Int) ∧ (k : Int) < (ds'.length : Int)) ∧ _
      refine ⟨by omega, z, hcw, bsp_intro (fun h => ?_) (fun _ => next hlt _ ky.drew)⟩
      exfalso; simp at h
    · have kall : K0 w wy := (kwM wx kx).trans (kxg.trans ky)
      exact ⟨(known_any wy (hG.kp kall (fun h => h))).mono fun e wz ⟨he, hkz⟩ => ⟨_, he, rfl, kall.trans hkz⟩⟩

end Go.Proofs.YtcpjajjocmpkjaaDoor
