/- The examples of the chapter hold: known returns true in every world in which the library's variable MaxLen holds a number. -/
import Derived.Test.YtcpjajjocmpkjaaDoorReas
import Derived.Test.YtcpjajjocmpkjaaDoorPm
import Derived.Test.YtcpjajjocmpkjaaDoorQuota
import Derived.Test.YtcpjajjocmpkjaaDoorVcKnown
namespace Go.Proofs.YtcpjajjocmpkjaaDoor
open Go.RowKit

def kNb : ByteArray := ByteArray.mk #[98]
def kPs : ByteArray := ByteArray.mk #[99, 111, 109, 112, 46, 42, 44, 64, 42, 46, 98, 105, 110]
def kDs : List ByteArray := [ByteArray.mk #[119, 111, 114, 108, 100]]
def kOs : ByteArray := ByteArray.mk #[99, 111, 109, 112, 46, 111, 115]
def kBin : ByteArray := ByteArray.mk #[99, 111, 109, 112, 46, 98, 105, 110]
def kX : It := ⟨fun _ => 0, [kOs], ByteArray.mk #[], 1000, false, ByteArray.mk #[99], 5⟩
def kBack : It := { kX with fr := ByteArray.mk #[98] }
def kBn : It := { kX with gs := [kOs, kBin] }
def kLong : It := { kX with by_ := 1001 }
def kLocal : It := { kX with d := ByteArray.mk #[108, 111, 99, 97, 108] }
def kCtl : It := { kX with gs := [kBin], by_ := 5000, ct := true }
def esOf (s : ByteArray) : List Ent := match listR s with | .inl es => es | .inr _ => []
def verdP (es : List Ent) (s : ByteArray) : Int := es.foldl (fun a e => if pmF (elS e.els) (fun i k => elH e.els i (at8 s k)) e.els.length s.size = true then e.v else a) 0
theorem verd_pm (es : List Ent) (s : ByteArray) : verd es s = verdP es s := by unfold verd verdP; congr 1; funext a e; rw [match_pm]
def selP (es : List Ent) (zs : List ByteArray) : Bool := zs.all (fun z => !(verdP es z == 3)) && zs.any (fun z => verdP es z == 1)
theorem sel_pm (es : List Ent) (zs : List ByteArray) : selB es zs = selP es zs := by
  have : verd es = verdP es := funext fun s => verd_pm es s
  simp only [selB, selP, this]
section
set_option maxRecDepth 100000
theorem kChk : chkS kNb kPs 1000 10 kDs = 0 := by decide +kernel
theorem kSel1 : selP (esOf kPs) [kOs] = true := by decide +kernel
theorem kSel2 : selP (esOf kPs) [kOs, kBin] = false := by decide +kernel
theorem kW : Lib.containsS kDs (ByteArray.mk #[108, 111, 99, 97, 108]) = false := by decide +kernel
end
theorem rsn_eq {nb : ByteArray} {mb : Int} {ds : List ByteArray} {es : List Ent} {x : It} {v : Int} (h : (if (x.fr.toList == nb.toList) = true then (1 : Int) else if (!x.ct && !selP es x.gs) = true then 2 else if (!x.ct && mb != 0 && decide (mb < x.by_)) = true then 3 else if (!x.ct && decide ((ds.length : Int) > 0) && !x.d.toList == [] && !Lib.containsS ds x.d) = true then 4 else 0) = v) : rsnS nb mb ds es x = v := by
  rw [← h]; simp only [rsnS, rsnB, sel_pm]
section
set_option maxRecDepth 100000
theorem kR0 : rsnS kNb 1000 kDs (esOf kPs) kX = 0 := rsn_eq (by decide +kernel)
theorem kR1 : rsnS kNb 1000 kDs (esOf kPs) kBack = 1 := rsn_eq (by decide +kernel)
theorem kR2 : rsnS kNb 1000 kDs (esOf kPs) kBn = 2 := rsn_eq (by decide +kernel)
theorem kR3 : rsnS kNb 1000 kDs (esOf kPs) kLong = 3 := rsn_eq (by decide +kernel)
theorem kR4 : rsnS kNb 1000 kDs (esOf kPs) kLocal = 4 := rsn_eq (by decide +kernel)
theorem kR5 : rsnS kNb 1000 kDs (esOf kPs) kCtl = 0 := rsn_eq (by decide +kernel)
end
theorem strP_one {w : World} {n : Nat} {zs : List ByteArray} {t : TypeId} {f : Nat × Nat} (h : w.heap[n]? = some (.cells (zs.map Value.string).toArray t f)) : StrP w (some ⟨n, 0, none⟩) zs := fun j z hj => ⟨n, 0, rfl, by rw [Nat.zero_add, cell_block h]; simp [hj]⟩
theorem It.size (x : It) (p : Option Addr) (c : Nat) : (x.cells p c).size = 38 := rfl
theorem kOk (x : It) (h : x.gs.length ≤ 2) (hs : ∀ z ∈ x.gs, z.size ≤ 100) : x.ok := ⟨by omega, fun z hz => by have := hs z hz; omega⟩

set_option maxHeartbeats 2000000 in
theorem known_any (w : World) (hG : GW w) : Calls Tryd.prog 12 #[] w fun e w' => e = .returned (.bool true) ∧ K0 w w' := by
  refine vc_known w _ ?_
  unfold VC_known
  intro n w1 hn
  have hk1 : K0 w w1 := hn.kp _
  have hds : StrP w1 (some ⟨n, 0, none⟩) kDs := strP_one hn.block
  refine ⟨(fcompile_any kNb kPs 1000 10 (some ⟨n, 0, none⟩) 1 kDs w1 (by decide) (hG.kp hk1 (fun h => h)) hds (by decide) (by decide)).mono fun e w2 ⟨hk2, he⟩ => ?_⟩
  rcases he with ⟨h0, _⟩ | ⟨_, b, es, hL, he, hf⟩
  · exact absurd kChk h0
  have hes : es = esOf kPs := by unfold esOf; rw [hL]
  obtain ⟨h64, h80⟩ := listR_ok hL
  subst hes
  refine ⟨_, _, he, ?_⟩
  clear he
  have hk12 : K0 w w2 := hk1.trans hk2
  have hdl : kDs.length ≤ 1073741824 := by decide
  intro n2 w3 hn3 n1 w4 hn4
  refine ⟨WrL_block hn4.block (by simp), fun w5 hp5 => ?_⟩
  have hb5 : w5.heap[n1]? = some (.cells (kX.cells (some ⟨n2, 0, none⟩) 1) 39 (0, 0)) := hp5.full hn4.block rfl
  have hk25 : K0 w2 w5 := ((hn3.kp _).trans (hn4.kp _)).fresh hp5.kp (fun i hi e => by have := hn4.ge; have := (hn3.kp (fun _ => False)).size; omega)
  have hg5 : StrP w5 (some ⟨n2, 0, none⟩) kX.gs := ((strP_one (zs := [kOs]) hn3.block).kp (hn4.kp (fun _ => False)) (fun _ _ _ h => h)).kp hp5.kp (fun b o e => by
    simp only [Option.some.injEq, Addr.mk.injEq] at e
    have := block_lt hn3.block
    have := hn4.ge
    omega)
  have hf5 := hf.kp hk25 (fun _ _ _ h => h)
  refine ⟨kX.id, some ⟨n2, 0, none⟩, 1, 1, kX.d, kX.by_, kX.ct, kX.fr, kX.ar, AtL_block hb5 rfl, ?_⟩
  refine ⟨(due_any (x := kX) (p := some ⟨n2, 0, none⟩) (c := 1) hf5 hg5 h64 h80 hdl (kOk _ (by decide) (by decide)) (by decide) (by decide)).mono fun e w6 ⟨he, hk6⟩ => ?_⟩
  rw [kR0, if_pos rfl] at he
  refine ⟨_, _, he, ?_⟩
  clear he
  have hb6 := hk6.blk hb5 (fun h => h)
  have cpy : ∀ w', K0 w6.drew w' → AtL w' n1 0 (arrI IntKind.u8 kX.id 32 0 ++ [Value.slice (some ⟨n2, 0, none⟩) 1 1, Value.string kX.d, Value.int .i64 kX.by_, Value.bool kX.ct, Value.string kX.fr, Value.int .i64 kX.ar]) := fun w' hk => AtL_block (hk.blk (blk_drew hb6) (fun h => h)) rfl
  refine ⟨kX.id, some ⟨n2, 0, none⟩, 1, 1, kX.d, kX.by_, kX.ct, kX.fr, kX.ar, cpy, kX.id, some ⟨n2, 0, none⟩, 1, 1, kX.d, kX.by_, kX.ct, kX.fr, kX.ar, cpy, kX.id, some ⟨n2, 0, none⟩, 1, 1, kX.d, kX.by_, kX.ct, kX.fr, kX.ar, cpy,
    kX.id, some ⟨n2, 0, none⟩, 1, 1, kX.d, kX.by_, kX.ct, kX.fr, kX.ar, cpy, kX.id, some ⟨n2, 0, none⟩, 1, 1, kX.d, kX.by_, kX.ct, kX.fr, kX.ar, cpy, fun _ => rfl, fun _ => rfl, fun _ => rfl, fun _ => rfl, fun _ => rfl, fun _ => rfl, fun _ => rfl, fun _ => rfl, fun _ => rfl, fun _ => rfl, ?_⟩
  intro m1 m2 m3 m4 m5 w7 hB
  have hk67 : K0 w6 w7 := hB.kp.of_drew
  have blkOf : ∀ m, (m, Obj.cells (kX.cells (some ⟨n2, 0, none⟩) 1) 39 (0, 0)) ∈ [(m5, Obj.cells (kX.cells (some ⟨n2, 0, none⟩) 1) 39 (0, 0)), (m4, Obj.cells (kX.cells (some ⟨n2, 0, none⟩) 1) 39 (0, 0)), (m3, Obj.cells (kX.cells (some ⟨n2, 0, none⟩) 1) 39 (0, 0)), (m2, Obj.cells (kX.cells (some ⟨n2, 0, none⟩) 1) 39 (0, 0)), (m1, Obj.cells (kX.cells (some ⟨n2, 0, none⟩) 1) 39 (0, 0))] →
      w6.heap.size ≤ m ∧ w7.heap[m]? = some (.cells (kX.cells (some ⟨n2, 0, none⟩) 1) 39 (0, 0)) := fun m hm => hB.at_ m _ hm
  obtain ⟨g1, c1⟩ := blkOf m1 (by simp)
  obtain ⟨g2, c2⟩ := blkOf m2 (by simp)
  obtain ⟨g3, c3⟩ := blkOf m3 (by simp)
  obtain ⟨g4, c4⟩ := blkOf m4 (by simp)
  obtain ⟨g5, c5⟩ := blkOf m5 (by simp)
  have hne := hB.ne
  simp only [List.pairwise_cons, List.mem_cons, List.not_mem_nil, or_false, forall_eq_or_imp, forall_eq, ne_eq] at hne
  obtain ⟨⟨d54, d53, d52, d51⟩, ⟨d43, d42, d41⟩, ⟨d32, d31⟩, d21, _⟩ := hne
  clear blkOf hB cpy
  have h16 : n1 < w6.heap.size := block_lt hb6
  -- back.From = "b"
  refine ⟨cell_wr c1 (by rw [It.size]; decide), fun w8 hp8 => ?_⟩
  have b1 : w8.heap[m1]? = some (.cells (kBack.cells (some ⟨n2, 0, none⟩) 1) 39 (0, 0)) := hp8.block c1
  have b2 := hp8.kp.blk c2 (fun e => d21 e)
  have b3 := hp8.kp.blk c3 (fun e => d31 e)
  have b4 := hp8.kp.blk c4 (fun e => d41 e)
  have b5 := hp8.kp.blk c5 (fun e => d51 e)
  have hk68 : K0 w6 w8 := hk67.fresh hp8.kp (fun i hi e => by omega)
  clear hp8 c1 c2 c3 c4 c5 hk67
  -- bin.Groups
  intro s2 w9 hn9
  have k9 := hn9.kp (fun _ => False)
  have hs2 := hn9.ge
  have q2 := hn9.block
  have b1 := k9.blk b1 (fun h => h)
  have b2 := k9.blk b2 (fun h => h)
  have b3 := k9.blk b3 (fun h => h)
  have b4 := k9.blk b4 (fun h => h)
  have b5 := k9.blk b5 (fun h => h)
  have hk69 : K0 w6 w9 := hk68.trans k9
  have hs2w : w6.heap.size ≤ s2 := Nat.le_trans hk68.size hs2
  have e12 : s2 ≠ m1 ∧ s2 ≠ m2 ∧ s2 ≠ m3 ∧ s2 ≠ m4 ∧ s2 ≠ m5 := by
    refine ⟨?_, ?_, ?_, ?_, ?_⟩ <;> intro e <;> subst e
    · rw [q2] at b1; simp at b1
    · rw [q2] at b2; simp at b2
    · rw [q2] at b3; simp at b3
    · rw [q2] at b4; simp at b4
    · rw [q2] at b5; simp at b5
  clear hn9 k9 hk68
  refine ⟨cell_wr b2 (by rw [It.size]; decide), fun wa hpa => ?_⟩
  have b2 : wa.heap[m2]? = some (.cells (kBn.cells (some ⟨s2, 0, none⟩) 2) 39 (0, 0)) := hpa.block b2
  have b1 := hpa.kp.blk b1 (fun e => d21 e.symm)
  have b3 := hpa.kp.blk b3 (fun e => d32 e)
  have b4 := hpa.kp.blk b4 (fun e => d42 e)
  have b5 := hpa.kp.blk b5 (fun e => d52 e)
  have q2 := hpa.kp.blk q2 (fun e => e12.2.1 e)
  have hk6a : K0 w6 wa := hk69.fresh hpa.kp (fun i hi e => by omega)
  clear hpa hk69
  -- long.Bytes
  refine ⟨cell_wr b3 (by rw [It.size]; decide), fun wb hpb => ?_⟩
  have b3 : wb.heap[m3]? = some (.cells (kLong.cells (some ⟨n2, 0, none⟩) 1) 39 (0, 0)) := hpb.block b3
  have b1 := hpb.kp.blk b1 (fun e => d31 e.symm)
  have b2 := hpb.kp.blk b2 (fun e => d32 e.symm)
  have b4 := hpb.kp.blk b4 (fun e => d43 e)
  have b5 := hpb.kp.blk b5 (fun e => d53 e)
  have q2 := hpb.kp.blk q2 (fun e => e12.2.2.1 e)
  have hk6b : K0 w6 wb := hk6a.fresh hpb.kp (fun i hi e => by omega)
  clear hpb hk6a
  -- local.Distribution
  refine ⟨cell_wr b4 (by rw [It.size]; decide), fun wc hpc => ?_⟩
  have b4 : wc.heap[m4]? = some (.cells (kLocal.cells (some ⟨n2, 0, none⟩) 1) 39 (0, 0)) := hpc.block b4
  have b1 := hpc.kp.blk b1 (fun e => d41 e.symm)
  have b2 := hpc.kp.blk b2 (fun e => d42 e.symm)
  have b3 := hpc.kp.blk b3 (fun e => d43 e.symm)
  have b5 := hpc.kp.blk b5 (fun e => d54 e)
  have q2 := hpc.kp.blk q2 (fun e => e12.2.2.2.1 e)
  have hk6c : K0 w6 wc := hk6b.fresh hpc.kp (fun i hi e => by omega)
  clear hpc hk6b
  -- control
  intro s5 wd hnd
  have kd := hnd.kp (fun _ => False)
  have hs5 := hnd.ge
  have q5 := hnd.block
  have b1 := kd.blk b1 (fun h => h)
  have b2 := kd.blk b2 (fun h => h)
  have b3 := kd.blk b3 (fun h => h)
  have b4 := kd.blk b4 (fun h => h)
  have b5 := kd.blk b5 (fun h => h)
  have q2 := kd.blk q2 (fun h => h)
  have hk6d : K0 w6 wd := hk6c.trans kd
  have e5 : s5 ≠ m5 := by intro e; subst e; rw [q5] at b5; simp at b5
  clear hnd kd hk6c
  refine ⟨cell_wr b5 (by rw [It.size]; decide), fun we hpe => ?_⟩
  have b5 : we.heap[m5]? = some (.cells (({ kX with gs := [kBin] } : It).cells (some ⟨s5, 0, none⟩) 1) 39 (0, 0)) := hpe.block b5
  have b1 := hpe.kp.blk b1 (fun e => d51 e.symm)
  have b2 := hpe.kp.blk b2 (fun e => d52 e.symm)
  have b3 := hpe.kp.blk b3 (fun e => d53 e.symm)
  have b4 := hpe.kp.blk b4 (fun e => d54 e.symm)
  have q2 := hpe.kp.blk q2 (fun e => e12.2.2.2.2 e)
  have q5 := hpe.kp.blk q5 (fun e => e5 e)
  have hk6e : K0 w6 we := hk6d.fresh hpe.kp (fun i hi e => by omega)
  clear hpe hk6d
  refine ⟨cell_wr b5 (by rw [It.size]; decide), fun wf hpf => ?_⟩
  have b5 : wf.heap[m5]? = some (.cells (({ kX with gs := [kBin], by_ := 5000 } : It).cells (some ⟨s5, 0, none⟩) 1) 39 (0, 0)) := hpf.block b5
  have b1 := hpf.kp.blk b1 (fun e => d51 e.symm)
  have b2 := hpf.kp.blk b2 (fun e => d52 e.symm)
  have b3 := hpf.kp.blk b3 (fun e => d53 e.symm)
  have b4 := hpf.kp.blk b4 (fun e => d54 e.symm)
  have q2 := hpf.kp.blk q2 (fun e => e12.2.2.2.2 e)
  have q5 := hpf.kp.blk q5 (fun e => e5 e)
  have hk6f : K0 w6 wf := hk6e.fresh hpf.kp (fun i hi e => by omega)
  clear hpf hk6e
  refine ⟨cell_wr b5 (by rw [It.size]; decide), fun wg hpg => ?_⟩
  have b5 : wg.heap[m5]? = some (.cells (kCtl.cells (some ⟨s5, 0, none⟩) 1) 39 (0, 0)) := hpg.block b5
  have b1 := hpg.kp.blk b1 (fun e => d51 e.symm)
  have b2 := hpg.kp.blk b2 (fun e => d52 e.symm)
  have b3 := hpg.kp.blk b3 (fun e => d53 e.symm)
  have b4 := hpg.kp.blk b4 (fun e => d54 e.symm)
  have q2 := hpg.kp.blk q2 (fun e => e12.2.2.2.2 e)
  have q5 := hpg.kp.blk q5 (fun e => e5 e)
  have hk6g : K0 w6 wg := hk6f.fresh hpg.kp (fun i hi e => by omega)
  clear hpg hk6f
  have b0 := hk6g.blk hb6 (fun h => h)
  have hfg := (hf5.kp hk6 (fun _ _ _ h => h)).kp hk6g (fun _ _ _ h => h)
  have hgg := (hg5.kp hk6 (fun _ _ _ h => h)).kp hk6g (fun _ _ _ h => h)
  have hg2 : StrP wg (some ⟨s2, 0, none⟩) [kOs, kBin] := strP_one q2
  have hg5' : StrP wg (some ⟨s5, 0, none⟩) [kBin] := strP_one q5
  have hkg : K0 w wg := (hk12.trans (hk25.trans hk6)).trans hk6g
  clear hk6g hk6 hk25 hf5 hg5 hb5 hb6 hds hf
  -- the quota
  refine ⟨(newQuota_any 100 wg).mono fun e wh he => ?_⟩
  rcases he with ⟨h, _⟩ | ⟨_, qb, he, hq, hkh, hqb⟩
  · exact absurd h (by decide)
  refine ⟨_, _, he, ?_⟩
  clear he
  refine ⟨(take_any qb 60 0 _ wh hq (by decide)).mono fun e wi ⟨he, hqi, hki⟩ => ⟨_, he, ?_⟩⟩
  refine ⟨(take_any qb 41 1439 _ wi hqi (by decide)).mono fun e wj ⟨he, hqj, hkj⟩ => ⟨_, he, ?_⟩⟩
  refine ⟨(take_any qb 41 1440 _ wj hqj (by decide)).mono fun e wk ⟨he, hqk, hkk⟩ => ⟨_, he, ?_⟩⟩
  have hkA : K0 wg wk := ((hkh.fresh hki (fun i hi e => by omega)).fresh hkj (fun i hi e => by omega)).fresh hkk (fun i hi e => by omega)
  have hfA := hfg.kp hkA (fun _ _ _ h => h)
  have hkwA : K0 w wk := hkg.trans hkA
  -- the reasons
  have rs : ∀ (x : It) (m s c : Nat) (wx : World) (v : Int), K0 wk wx → wg.heap[m]? = some (.cells (x.cells (some ⟨s, 0, none⟩) c) 39 (0, 0)) → StrP wg (some ⟨s, 0, none⟩) x.gs → x.ok → rsnS kNb 1000 kDs (esOf kPs) x = v →
      AtL wx m 0 (arrI IntKind.u8 x.id 32 0 ++ [Value.slice (some ⟨s, 0, none⟩) x.gs.length c, Value.string x.d, Value.int .i64 x.by_, Value.bool x.ct, Value.string x.fr, Value.int .i64 x.ar]) ∧
      Calls Tryd.prog 17 #[.pointer (some ⟨b, 0, none⟩), .agg (x.cells (some ⟨s, 0, none⟩) c)] wx fun e w' => e = .returned (.int .i64 v) ∧ K0 wx w' := by
    intro x m s c wx v hkx hm hs hx hv
    refine ⟨AtL_block ((hkA.trans hkx).blk hm (fun h => h)) rfl, ?_⟩
    rw [← hv]
    exact reason_any (hfA.kp hkx (fun _ _ _ h => h)) (hs.kp (hkA.trans hkx) (fun _ _ _ h => h)) h64 h80 hdl hx
  obtain ⟨a1, r1⟩ := rs kX n1 n2 1 wk 0 (.refl _ _) b0 hgg (kOk _ (by decide) (by decide)) kR0
  refine ⟨kX.id, some ⟨n2, 0, none⟩, 1, 1, kX.d, kX.by_, kX.ct, kX.fr, kX.ar, gimp_intro fun _ => a1, bsp_intro (fun _ => ?_) (fun h => absurd h (by decide))⟩
  refine ⟨r1.mono fun e wl ⟨he, hkl⟩ => ⟨_, he, ?_⟩⟩
  obtain ⟨a1, r1⟩ := rs kBack m1 n2 1 wl 1 hkl b1 hgg (kOk _ (by decide) (by decide)) kR1
  refine ⟨kBack.id, some ⟨n2, 0, none⟩, 1, 1, kBack.d, kBack.by_, kBack.ct, kBack.fr, kBack.ar, gimp_intro fun _ => a1, bsp_intro (fun _ => ?_) (fun h => absurd h (by decide))⟩
  refine ⟨r1.mono fun e wl2 ⟨he, hk2⟩ => ⟨_, he, ?_⟩⟩
  have hkl := hkl.trans hk2
  obtain ⟨a1, r1⟩ := rs kBn m2 s2 2 wl2 2 hkl b2 hg2 (kOk _ (by decide) (by decide)) kR2
  refine ⟨kBn.id, some ⟨s2, 0, none⟩, 2, 2, kBn.d, kBn.by_, kBn.ct, kBn.fr, kBn.ar, gimp_intro fun _ => a1, bsp_intro (fun _ => ?_) (fun h => absurd h (by decide))⟩
  refine ⟨r1.mono fun e wl3 ⟨he, hk3⟩ => ⟨_, he, ?_⟩⟩
  have hkl := hkl.trans hk3
  obtain ⟨a1, r1⟩ := rs kLong m3 n2 1 wl3 3 hkl b3 hgg (kOk _ (by decide) (by decide)) kR3
  refine ⟨kLong.id, some ⟨n2, 0, none⟩, 1, 1, kLong.d, kLong.by_, kLong.ct, kLong.fr, kLong.ar, gimp_intro fun _ => a1, bsp_intro (fun _ => ?_) (fun h => absurd h (by decide))⟩
  refine ⟨r1.mono fun e wl4 ⟨he, hk4⟩ => ⟨_, he, ?_⟩⟩
  have hkl := hkl.trans hk4
  obtain ⟨a1, r1⟩ := rs kLocal m4 n2 1 wl4 4 hkl b4 hgg (kOk _ (by decide) (by decide)) kR4
  refine ⟨kLocal.id, some ⟨n2, 0, none⟩, 1, 1, kLocal.d, kLocal.by_, kLocal.ct, kLocal.fr, kLocal.ar, gimp_intro fun _ => a1, bsp_intro (fun _ => ?_) (fun h => absurd h (by decide))⟩
  refine ⟨r1.mono fun e wl5 ⟨he, hk5⟩ => ⟨_, he, ?_⟩⟩
  have hkl := hkl.trans hk5
  obtain ⟨a1, r1⟩ := rs kCtl m5 s5 1 wl5 0 hkl b5 hg5' (kOk _ (by decide) (by decide)) kR5
  refine ⟨kCtl.id, some ⟨s5, 0, none⟩, 1, 1, kCtl.d, kCtl.by_, kCtl.ct, kCtl.fr, kCtl.ar, gimp_intro fun _ => a1, bsp_intro (fun _ => ?_) (fun h => absurd h (by decide))⟩
  refine ⟨r1.mono fun e wl6 ⟨he, hk6⟩ => ⟨_, he, ?_⟩⟩
  have hkl := hkl.trans hk6
  refine bsp_intro (fun _ => ?_) (fun h => absurd h (by decide))
  refine ⟨(left_any qb 1440 _ wl6 (hkl.blk hqk (fun h => h)) (by decide) (by decide)).mono fun e wm ⟨he, hwm⟩ => ⟨_, he, ?_⟩⟩
  refine ⟨rfl, ?_⟩
  rcases hwm with rfl | rfl
  · exact hkwA.trans hkl
  · exact (hkwA.trans hkl).drew

end Go.Proofs.YtcpjajjocmpkjaaDoor
