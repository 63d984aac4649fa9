/- Chapter 42: what step takes is what the plan takes (plain), and the contract of Plan. No condition but sizes. -/
import Derived.Test.YtmjanmffnblcoaaGreatDoorZ10
import Derived.Test.YtmjanmffnblcoaaGreatDoorProg
import Derived.Test.YtmjanmffnblcoaaGreatDoorZ02
import Derived.Test.YtmjanmffnblcoaaGreatDoorZ05
import Derived.KernelRfl
import Derived.Test.YtmjanmffnblcoaaGreatDoorZ07
import Derived.Test.YtmjanmffnblcoaaGreatDoorZ08
import Derived.Test.YtmjanmffnblcoaaGreatDoorZ04
namespace Go.Proofs.YtmjanmffnblcoaaGreatDoor
open Go.RowKit Go.Sort Go.Maps

def plX (y : CX) : Ar := y.a.pl
theorem fidx_find {α : Type} {P : α → Bool} : ∀ (l : List α), (match l.findIdx? P with | some i => l[i]? | none => none) = l.find? P
  | [] => rfl
  | x :: l => by
    rw [List.findIdx?_cons, List.find?_cons]
    cases h : P x with
    | true => rfl
    | false =>
      have ih := fidx_find (P := P) l
      cases hf : l.findIdx? P with
      | none => rw [hf] at ih; simpa using ih
      | some i => rw [hf] at ih; simpa using ih
section
variable {L : List Rl} {now budget : Int} {cur : List CX} {ids : List (List Int)}
theorem goC_goB (hmk : ∀ y ∈ cur, y = mkC L now y.a) (hids : ∀ i, i ∈ ids ↔ i ∈ cur.map idX) {y : CX} (hy : y ∈ cur) {k : Nat} (hk : k = 1 ∨ k = 2 ∨ k = 3) : goC (totS (cur.map plX)) budget ids k y = goB L now budget (cur.map plX) k (plX y) := by
  have e := hmk y hy
  have e1 : y.fx = fixB now y.a.pl := by rw [e]; rfl
  have e2 : y.ov = overB L now y.a.pl := by rw [e]; rfl
  have e3 : y.my = mayB L now y.a.pl := by rw [e]; rfl
  have hp : protC ids y = protB now (cur.map plX) (plX y) := by
    unfold protC protB
    rw [e1]
    congr 1
    show _ = (y.a.hs.map idI).any _
    rw [List.any_map]
    congr 1
    funext h
    show decide (idI h ∈ ids) = hereB (cur.map plX) (idI h)
    unfold hereB
    rw [List.any_map, Bool.eq_iff_iff, decide_eq_true_iff, hids, List.any_eq_true]
    constructor
    · intro hm
      obtain ⟨z, hz, he⟩ := List.mem_map.1 hm
      exact ⟨z, hz, decide_eq_true he⟩
    · rintro ⟨z, hz, he⟩
      exact List.mem_map.2 ⟨z, hz, of_decide_eq_true he⟩
  unfold goC goB
  rw [hp]
  congr 1
  rcases hk with rfl | rfl | rfl
  · rfl
  · exact e2
  · show (decide (budget < totS (cur.map plX)) && y.my) = (decide (budget < totS (cur.map plX)) && mayB L now y.a.pl)
    rw [e3]
theorem find_congr {α : Type} {P Q : α → Bool} : ∀ {l : List α}, (∀ x ∈ l, P x = Q x) → l.find? P = l.find? Q
  | [], _ => rfl
  | x :: l, h => by rw [List.find?_cons, List.find?_cons, h x (by simp), find_congr (fun y hy => h y (by simp [hy]))]
theorem pickI_S (hmk : ∀ y ∈ cur, y = mkC L now y.a) (hids : ∀ i, i ∈ ids ↔ i ∈ cur.map idX) :
    match pickI (totS (cur.map plX)) budget ids cur with
    | none => pickS L now budget (cur.map plX) = none
    | some (i, k) => ∃ y, cur[i]? = some y ∧ pickS L now budget (cur.map plX) = some (plX y, k) := by
  have key : ∀ k, (k = 1 ∨ k = 2 ∨ k = 3) → (cur.map plX).find? (goB L now budget (cur.map plX) k) = (match cur.findIdx? (goC (totS (cur.map plX)) budget ids k) with | some i => cur[i]? | none => none).map plX := fun k hk => by
    rw [fidx_find, List.find?_map, find_congr (P := goC (totS (cur.map plX)) budget ids k) (fun y hy => goC_goB hmk hids hy hk)]
    rfl
  unfold pickI pickS
  rw [key 1 (.inl rfl), key 2 (.inr (.inl rfl)), key 3 (.inr (.inr rfl))]
  have some_at : ∀ {k i : Nat}, cur.findIdx? (goC (totS (cur.map plX)) budget ids k) = some i → ∃ y, cur[i]? = some y := fun {k i} h => by
    rw [List.findIdx?_eq_some_iff_getElem] at h
    exact ⟨_, List.getElem?_eq_getElem h.1⟩
  cases h1 : cur.findIdx? (goC (totS (cur.map plX)) budget ids 1) with
  | some i =>
    obtain ⟨y, hy⟩ := some_at h1
    simp only [hy]
    exact ⟨y, rfl, rfl⟩
  | none =>
    cases h2 : cur.findIdx? (goC (totS (cur.map plX)) budget ids 2) with
    | some i =>
      obtain ⟨y, hy⟩ := some_at h2
      simp only [hy]
      exact ⟨y, rfl, rfl⟩
    | none =>
      cases h3 : cur.findIdx? (goC (totS (cur.map plX)) budget ids 3) with
      | some i =>
        obtain ⟨y, hy⟩ := some_at h3
        simp only [hy]
        exact ⟨y, rfl, rfl⟩
      | none => rfl
theorem erase_without : ∀ {l : List CX} {i : Nat} {y : CX}, (l.map idX).Nodup → l[i]? = some y → without (l.map plX) (idX y) = (l.eraseIdx i).map plX
  | [], i, y, _, h => by simp at h
  | x :: l, 0, y, hd, h => by
    simp at h
    subst h
    rw [List.map_cons, List.nodup_cons] at hd
    unfold without
    rw [List.map_cons, List.filter_cons, if_neg (by show ¬ (!decide ((plX x).id = idX x)) = true; simp [plX, idX, AX.pl])]
    show _ = l.map plX
    refine List.filter_eq_self.2 fun b hb => ?_
    obtain ⟨z, hz, rfl⟩ := List.mem_map.1 hb
    have : ¬ (plX z).id = idX x := fun e => hd.1 (List.mem_map.2 ⟨z, hz, e⟩)
    simp [this]
  | x :: l, i + 1, y, hd, h => by
    have h' : l[i]? = some y := by simpa using h
    rw [List.map_cons, List.nodup_cons] at hd
    have hne : ¬ (plX x).id = idX y := fun e => hd.1 (List.mem_map.2 ⟨y, List.mem_of_getElem? h', e.symm⟩)
    have ih := erase_without hd.2 h'
    unfold without at ih ⊢
    rw [List.map_cons, List.filter_cons, if_pos (by simp [hne]), ih]
    rfl
theorem totS_erase : ∀ {l : List CX} {i : Nat} {y : CX}, l[i]? = some y → totS ((l.eraseIdx i).map plX) = totS (l.map plX) - y.a.by_
  | [], i, y, h => by simp at h
  | x :: l, 0, y, h => by
    simp at h; subst h
    show totS (l.map plX) = totS (plX x :: l.map plX) - x.a.by_
    unfold totS
    rw [List.map_cons, List.sum_cons]
    show _ = x.a.by_ + _ - x.a.by_
    omega
  | x :: l, i + 1, y, h => by
    have ih := totS_erase (l := l) (i := i) (y := y) (by simpa using h)
    show totS (plX x :: (l.eraseIdx i).map plX) = totS (plX x :: l.map plX) - y.a.by_
    unfold totS at ih ⊢
    rw [List.map_cons, List.map_cons, List.sum_cons, List.sum_cons, ih]
    omega
theorem nodup_erase {l : List CX} {i : Nat} (h : (l.map idX).Nodup) : ((l.eraseIdx i).map idX).Nodup := h.sublist ((List.eraseIdx_sublist l i).map _)
theorem mem_without {l : List CX} {i : Nat} {y : CX} (h : (l.map idX).Nodup) (hy : l[i]? = some y) (hids : ∀ j, j ∈ ids ↔ j ∈ l.map idX) : ∀ j, j ∈ without' ids (idI y.a.id) ↔ j ∈ (l.eraseIdx i).map idX := by
  intro j
  have e : (l.eraseIdx i).map idX = (without (l.map plX) (idX y)).map (·.id) := by
    rw [erase_without h hy, List.map_map]; rfl
  rw [e]
  unfold without' without
  rw [List.mem_filter, hids, List.mem_map, List.mem_map]
  constructor
  · rintro ⟨⟨z, hz, rfl⟩, h2⟩
    exact ⟨plX z, List.mem_filter.2 ⟨List.mem_map.2 ⟨z, hz, rfl⟩, h2⟩, rfl⟩
  · rintro ⟨a, ha, rfl⟩
    obtain ⟨h1, h2⟩ := List.mem_filter.1 ha
    obtain ⟨z, hz, rfl⟩ := List.mem_map.1 h1
    exact ⟨⟨z, hz, rfl⟩, h2⟩
end
theorem errA_ok : ∀ {l : List Ar} {seen : List (List Int)}, seen.Nodup → errA seen l = 0 → (∀ a ∈ l, arBad a = false) ∧ (seen ++ l.map (·.id)).Nodup
  | [], seen, hs, _ => ⟨(fun a h => by cases h), by simpa using hs⟩
  | a :: l, seen, hs, h => by
    have e : errA seen (a :: l) = if arBad a = true then 2 else if a.id ∈ seen then 7 else errA (seen ++ [a.id]) l := rfl
    rw [e] at h
    split at h
    · cases h
    · rename_i hb
      split at h
      · cases h
      · rename_i hn
        have hs' : (seen ++ [a.id]).Nodup := by
          rw [List.nodup_append]
          exact ⟨hs, by simp, fun x hx y hy e => by simp at hy; subst hy; subst e; exact hn hx⟩
        obtain ⟨h1, h2⟩ := errA_ok hs' h
        refine ⟨fun x hx => ?_, by simpa using h2⟩
        rcases List.mem_cons.1 hx with rfl | hx
        · simpa using hb
        · exact h1 x hx
theorem arOK_of {x : AX} (h : arBad x.pl = false) (gl : x.gs.length ≤ 1048576) (gz : ∀ z ∈ x.gs, z.size ≤ 9223372036854775807) (hl : x.hs.length ≤ 1048576) (id : ∀ j, 0 ≤ x.id j ∧ x.id j ≤ 255) (hs : ∀ h ∈ x.hs, ∀ j, 0 ≤ h j ∧ h j ≤ 255) : ArOK x := by
  unfold arBad at h
  simp only [Bool.or_eq_false_iff, Bool.not_eq_false', decide_eq_false_iff_not] at h
  obtain ⟨⟨⟨⟨⟨h1, h2⟩, h3⟩, h4⟩, h5⟩, h6⟩ := h
  unfold minB at h1 h2
  simp only [Bool.and_eq_true, decide_eq_true_eq] at h1 h2
  exact ⟨h1, h2, ⟨by show 0 ≤ x.pl.by_; omega, by show x.pl.by_ ≤ _; omega⟩, ⟨by show 0 ≤ x.pl.ct; omega, by show x.pl.ct ≤ _; omega⟩, gl, gz, hl, id, hs⟩

/-- Articles that are not too many and not too long. -/
structure ArSz (x : AX) : Prop where
  gl : x.gs.length ≤ 1048576
  gz : ∀ z ∈ x.gs, z.size ≤ 9223372036854775807
  hl : x.hs.length ≤ 1048576
  id : ∀ j, 0 ≤ x.id j ∧ x.id j ≤ 255
  hs : ∀ h ∈ x.hs, ∀ j, 0 ≤ h j ∧ h j ≤ 255
def planErr (L : List Rl) (l : List Ar) (now budget : Int) : Int := if chkR L ≠ 0 then chkR L else if (!minB now || decide (budget < 0)) = true then 2 else errA [] l
def whyC (r : (Nat → Int) × Nat) : List Value := whyL r.1 (r.2 : Int)
theorem whyC_length (r : (Nat → Int) × Nat) : (whyC r).length = 33 := rfl
def whyS (r : (Nat → Int) × Nat) : List Int × Nat := (idI r.1, r.2)

set_option maxRecDepth 100000 in
set_option maxHeartbeats 2000000 in
theorem eplan_any (L : List Rl) (p : Option Addr) (c : Nat) (l : List AX) (q : Option Addr) (d : Nat) (now budget : Int) (w : World) (hR : RowA rlC 3 w p L) (hA : RowA axC 39 w q l) (hX : ∀ x ∈ l, AXR w x) (hsz : ∀ x ∈ l, ArSz x) (hl : l.length ≤ 1000) :
    Calls Tryz.prog 12 #[.slice p L.length c, .slice q l.length d, .int .i64 now, .int .i64 budget] w fun e w' => K0 w w' ∧
      ((planErr L (l.map AX.pl) now budget ≠ 0 ∧ e = .returned (.tuple #[.slice none 0 0, .int .i64 (planErr L (l.map AX.pl) now budget)])) ∨
       (planErr L (l.map AX.pl) now budget = 0 ∧ ∃ (R : List ((Nat → Int) × Nat)) (p' : Option Addr) (c' : Nat), e = .returned (.tuple #[.slice p' R.length c', .int .i64 0]) ∧ w'.ownsRow w.heap.size 53 33 (.slice p' R.length c') R.length (R.flatMap whyC) ∧ R.map whyS = (refP L now budget l.length (l.map AX.pl)).1 ∧ (∀ r ∈ R, ∀ j, 0 ≤ r.1 j ∧ r.1 j ≤ 255))) := by
  refine vc_eplan p L.length c q l.length d now budget w _ ?_
  refine ⟨(ecompile_any L p c w hR).mono fun e w1 ⟨k1, he⟩ => ?_⟩
  rcases he with ⟨h0, q2, d2, bs, he, hbs, hP⟩ | ⟨h0, he⟩
  rotate_left
  · have eP : planErr L (l.map AX.pl) now budget = chkR L := by unfold planErr; rw [if_pos h0]
    rw [eP]
    exact ⟨_, _, _, _, _, _, _, he, .of_k0 k1, fun n2 => bsp_intro (fun _ W hW => ⟨k1.trans (hW.kk rfl), .inl ⟨h0, rfl⟩⟩) (fun h => by simp at h; exact absurd h h0)⟩
  refine ⟨_, _, _, _, _, _, _, he, .of_k0 k1, fun n2 => bsp_intro (fun h => by simp at h) (fun _ => ?_)⟩
  refine bsp_intro (fun hbad W hW => ?_) (fun hgood W hW => ?_)
  · have eP : planErr L (l.map AX.pl) now budget = 2 := by unfold planErr; rw [if_neg (by simpa using h0), if_pos hbad]
    rw [eP]
    exact ⟨k1.trans (hW.kk rfl), .inl ⟨by decide, rfl⟩⟩
  have eP : planErr L (l.map AX.pl) now budget = errA [] (l.map AX.pl) := by unfold planErr; rw [if_neg (by simpa using h0), if_neg (by simpa using hgood)]
  rw [eP]
  have kW : K0 w W := k1.trans (hW.kk rfl)
  refine ⟨(echeckA_any l q d W (fun k y hy => by
    obtain ⟨b, o, h1, h2⟩ := hA k y hy
    exact ⟨b, o, h1, h2.k0 kW⟩) (by omega) (fun x hx => (hsz x hx).id)).mono fun e w2 ⟨he, k2⟩ => ⟨_, he, .of_k0 k2, ?_⟩⟩
  have kw2 : K0 w w2 := kW.trans k2
  refine bsp_intro (fun hbad => ?_) (fun hgood2 => ?_)
  · have hbad : errA [] (l.map AX.pl) ≠ 0 := by simpa using hbad
    exact ⟨kw2, .inl ⟨hbad, rfl⟩⟩
  have herr : errA [] (l.map AX.pl) = 0 := by simpa using hgood2
  obtain ⟨hgoodA, hnd⟩ := errA_ok .nil herr
  rw [List.nil_append] at hnd
  have hok : ∀ x ∈ l, ArOK x := fun x hx => by
    have h := hsz x hx
    exact arOK_of (hgoodA x.pl (List.mem_map.2 ⟨x, hx, rfl⟩)) h.gl h.gz h.hl h.id h.hs
  have hrl := rlF_all (l := L) (by
    unfold chkR at h0
    split at h0
    · cases h0
    · exact h0)
  refine ⟨(enewP_any L p c q2 d2 bs l q d now budget w2 (hR.k0 kw2) (hP.k0 ((hW.kk rfl).trans k2)) hbs (chkR_len h0) hrl (hA.k0 kw2) (fun x hx => (hX x hx).k0 kw2) hok hl).mono fun e w3 he3 => ?_⟩
  obtain ⟨b, p', c', mb, hs, he, hpl, hperm, hsrt⟩ := he3
  have k3 : K0 w2 w3 := hpl.k0
  refine ⟨_, he, .of_k0 k3, ?_⟩
  -- the candidates
  have hmk : ∀ y ∈ hs, y = mkC L now y.a ∧ y.a ∈ l := fun y hy => by
    obtain ⟨x, hx, rfl⟩ := List.mem_map.1 (hperm.mem_iff.1 hy)
    exact ⟨rfl, hx⟩
  have hplp : (hs.map plX).Perm (l.map AX.pl) := by
    have := hperm.map plX
    rw [List.map_map] at this
    exact this
  have hArs : ArsOK (l.map AX.pl) := ⟨by
    have := hnd
    rwa [List.map_map] at this ⊢, fun a ha => by
    obtain ⟨x, hx, rfl⟩ := List.mem_map.1 ha
    exact idI_bd (hok x hx).id⟩
  have hsrtA : srtA (hs.map plX) := by
    show ((hs.map plX).map keyA).Pairwise _
    rw [List.map_map, List.pairwise_map]
    refine hsrt.imp_of_mem fun {x y} hx hy hxy => ?_
    have hx' := idI_bd (hok _ (hmk x hx).2).id
    have hy' := idI_bd (hok _ (hmk y hy).2).id
    have := cfJ_K (x := keyX y) (y := keyX x) hy' hx'
    show ¬ cfK (keyA y.a.pl) (keyA x.a.pl) < 0
    rw [show cfK (keyA y.a.pl) (keyA x.a.pl) = cfX y x from this]
    exact hxy
  have href := (ref_plan (l := L) (now := now) (budget := budget) l.length (l.map AX.pl) (hs.map plX) hplp hsrtA hArs).1
  have hlen : hs.length = l.length := by have := hperm.length_eq; rw [List.length_map] at this; exact this
  have htot : sumB l = totS (hs.map plX) := by
    rw [tot_perm hplp]
    unfold sumB totS
    rw [List.map_map]; rfl
  have hids0 : ∀ i, i ∈ (l.map fun x => idI x.id) ↔ i ∈ hs.map idX := fun i => by
    have := (hplp.map (·.id)).mem_iff (a := i)
    rw [List.map_map, List.map_map] at this
    exact this.symm
  have hnd0 : (hs.map idX).Nodup := by
    have := (hplp.map (·.id)).nodup_iff.2 (by rw [List.map_map] at hnd ⊢; exact hnd)
    rw [List.map_map] at this
    exact this
  rw [htot] at hpl
  refine ⟨fun vs w' => ∃ (R : List ((Nat → Int) × Nat)) (p9 : Option Addr) (c9 : Nat) (cur : List CX) (ids : List (List Int)), vs = [.slice p9 R.length c9] ∧ R.length + cur.length = l.length ∧ (∀ y ∈ cur, y ∈ hs) ∧ (∀ i, i ∈ ids ↔ i ∈ cur.map idX) ∧ (cur.map idX).Nodup ∧
      R.map whyS ++ (planS L now budget cur.length (cur.map plX)).1 = (planS L now budget l.length (hs.map plX)).1 ∧ (∀ r ∈ R, ∀ j, 0 ≤ r.1 j ∧ r.1 j ≤ 255) ∧ PlR w2 w' b p' c' mb (totS (cur.map plX)) budget cur ids ∧ w'.ownsRow w2.heap.size 53 33 (.slice p9 R.length c9) R.length (R.flatMap whyC),
    fun vs _ => (match vs with | .slice _ n _ :: _ => l.length - n | _ => 0), ⟨[], none, 0, hs, _, rfl, by simpa using hlen, (fun y hy => hy), hids0, hnd0, by rw [List.map_nil, List.nil_append, hlen], (fun r hr => by cases hr), hpl, World.ownsRow_nil _ _ _ _⟩, ?_⟩
  rintro p9 n9 c9 w4 ⟨R, p9', c9', cur, ids, hv, hRc, hcur, hids, hndc, hplan, hRb, hpl4, ho4⟩ hL4
  simp only [List.cons.injEq, Value.slice.injEq, and_true] at hv
  obtain ⟨rfl, rfl, rfl⟩ := hv
  have okc : ∀ y ∈ cur, ArOK y.a := fun y hy => hok _ (hmk y (hcur y hy)).2
  have hbd := sumB_bd (cur.map (·.a)) (fun x hx => by
    obtain ⟨y, hy, rfl⟩ := List.mem_map.1 hx
    exact (okc y hy).by_)
  have etot : totS (cur.map plX) = sumB (cur.map (·.a)) := by
    unfold totS sumB
    rw [List.map_map, List.map_map]; rfl
  rw [List.length_map] at hbd
  have hcl : cur.length ≤ 1000 := by omega
  refine ⟨(estep_any hpl4 okc hcl (by rw [etot]; omega)).mono fun e w5 he5 => ?_⟩
  have hpk := pickI_S (L := L) (now := now) (budget := budget) (fun y hy => (hmk y (hcur y hy)).1) hids
  rcases he5 with ⟨hno, he, k5⟩ | ⟨i, k, y, hpick, hy, he, hpl5, k5⟩
  · rw [hno] at hpk
    simp only at hpk
    refine ⟨_, _, _, he, .of_k0 k5, fun n4 => bsp_intro (fun _ W6 hW6 => ?_) (fun h => absurd h (by decide))⟩
    have k6 : K0 w5 W6 := hW6.kk rfl
    have hK : K0 w w4 := kw2.trans hpl4.k0
    refine ⟨(hK.trans k5).trans k6, .inr ⟨herr, R, p9, c9, rfl, own_base (owns_kp (owns_kp ho4 k5 (fun _ _ h => h)) k6 (fun _ _ h => h)) kw2.size, ?_, hRb⟩⟩
    rw [href, ← hplan]
    have : (planS L now budget cur.length (cur.map plX)).1 = [] := by
      cases hn : cur.length with
      | zero => rfl
      | succ n => simp only [planS, hpk]
    rw [this, List.append_nil]
  · rw [hpick] at hpk
    obtain ⟨y', hy', hpS⟩ := hpk
    rw [hy] at hy'
    simp at hy'
    subst hy'
    have hil : i < cur.length := (List.getElem?_eq_some_iff.1 hy).1
    have hnr : ∀ j, (Value.slice p9 R.length c9).ownBlock = some j → ¬ (j = b ∨ j = mb ∨ (Value.slice p' cur.length c').ownBlock = some j) := fun j hj => by
      obtain ⟨cc, hcc⟩ := own_type ho4 hj
      obtain ⟨es, cl, hmb⟩ := hpl4.mapAt
      rintro (e | e | e)
      · exact blk_ne hcc hpl4.blk rfl e
      · exact blk_neMap hcc hmb e
      · exact own_not hpl4.own hcc rfl e
    have ho5 := owns_kp ho4 k5 hnr
    have hn2 := hL4.cells 0 rfl
    have hn2r : ¬ (n2 = b ∨ n2 = mb ∨ (Value.slice p' cur.length c').ownBlock = some n2) := by
      obtain ⟨es, cl, hmb⟩ := hpl4.mapAt
      rintro (e | e | e)
      · exact blk_ne hn2 hpl4.blk rfl e
      · exact blk_neMap hn2 hmb e
      · exact own_not hpl4.own hn2 rfl e
    refine ⟨y.a.id, (k : Int), true, he, .of_kp k5 (fun z hz => by simp at hz; subst hz; exact hn2r), fun n4 => bsp_intro (fun h => absurd h (by decide)) (fun _ n5 W6 hW6 => ?_)⟩
    have k6 : K0 w5 W6 := hW6.kk rfl
    have ho6 := owns_kp ho5 k6 (fun _ _ h => h)
    have hpl6 := hpl5.k k6
    refine ⟨w2.heap.size, _, ho6, by omega, by omega, hpl6.k0.size, fun p8 c8 w7 ho7 hg7 _ => ?_⟩
    have k7 := kp_grown hg7
    have hn2' := hW6.cells 0 rfl
    have hn4' := hW6.cells 2 rfl
    have r2 : ¬ (Value.slice p9 R.length c9).ownBlock = some n2 := own_not ho6 hn2' rfl
    have r4 : ¬ (Value.slice p9 R.length c9).ownBlock = some n4 := fun e => by
      have h1 := own_lt ho5 e
      have h2 := hW6.fresh 2 rfl rfl
      simp only at h2
      omega
    have rb : ¬ (Value.slice p9 R.length c9).ownBlock = some b := own_not ho6 hpl6.blk rfl
    obtain ⟨es, cl, hmb⟩ := hpl6.mapAt
    have rmb : ¬ (Value.slice p9 R.length c9).ownBlock = some mb := own_notMap ho6 hmb
    have hel : (cur.eraseIdx i).length = cur.length - 1 := List.length_eraseIdx_of_lt hil
    refine ⟨.of_kp k7 (fun z hz => ?_), ⟨R ++ [(y.a.id, k)], p8, c8, cur.eraseIdx i, without' ids (idI y.a.id), by simp, ?_, ?_, ?_, nodup_erase hndc, ?_, ?_, ?_, ?_⟩, ?_⟩
    · simp only [List.mem_cons, List.not_mem_nil, or_false] at hz
      rcases hz with rfl | rfl
      · exact r2
      · exact r4
    · rw [List.length_append, hel]; simp only [List.length_cons, List.length_nil]; omega
    · exact fun z hz => hcur z (List.mem_of_mem_eraseIdx hz)
    · exact mem_without hndc hy hids
    · rw [← hplan, List.map_append, List.append_assoc]
      congr 1
      have e1 : cur.length = (cur.eraseIdx i).length + 1 := by omega
      have e2 : (planS L now budget cur.length (cur.map plX)).1 = ((plX y).id, k) :: (planS L now budget (cur.eraseIdx i).length (without (cur.map plX) (plX y).id)).1 := by
        rw [e1]
        simp only [planS, hpS]
      rw [e2]
      show whyS (y.a.id, k) :: _ = _
      rw [show without (cur.map plX) (plX y).id = (cur.eraseIdx i).map plX from erase_without hndc hy]
      rfl
    · intro r hr
      rcases List.mem_append.1 hr with h | h
      · exact hRb r h
      · simp at h
        subst h
        exact (okc y (List.mem_of_getElem? hy)).id
    · have hpl6' : PlR w2 W6 b p' c' mb (totS ((cur.eraseIdx i).map plX)) budget (cur.eraseIdx i) (without' ids (idI y.a.id)) := by rw [totS_erase hy]; exact hpl6
      refine hpl6'.kp k7 rb (fun j hj e => ?_) rmb (Kp.fresh hpl6.k0 k7 (fun j hj e => by have := own_ge ho6 e; omega))
      obtain ⟨cc, hcc⟩ := own_type ho6 e
      exact own_not hpl6'.own hcc rfl hj
    · rw [List.flatMap_append]
      have e : (R ++ [(y.a.id, k)]).length = R.length + 1 := by simp
      rw [e]
      simpa [whyC, whyL] using ho7
    · simp only
      omega

end Go.Proofs.YtmjanmffnblcoaaGreatDoor

/- The formulas of functions by the symbolic evaluator, and that each gives the call's contract. Written by a program (gen.py). No condition. -/
namespace Go.Proofs.YtmjanmffnblcoaaGreatDoor
set_option maxRecDepth 100000
set_option linter.unusedVariables false

def VC_rclass (s : ByteArray) (at_ : Int) (w : World) (R : Ending → World → Prop) : Prop :=
 ∀ (n : Nat) (w1 : World),
 NewB w
 (Obj.cells
 #[Value.bool false, Value.bool false, Value.bool false, Value.bool false, Value.bool false, Value.bool false,
 Value.bool false, Value.bool false, Value.bool false, Value.bool false, Value.bool false, Value.bool false,
 Value.bool false, Value.bool false, Value.bool false, Value.bool false, Value.bool false, Value.bool false,
 Value.bool false, Value.bool false, Value.bool false, Value.bool false, Value.bool false, Value.bool false,
 Value.bool false, Value.bool false, Value.bool false, Value.bool false, Value.bool false, Value.bool false,
 Value.bool false, Value.bool false, Value.bool false, Value.bool false, Value.bool false, Value.bool false,
 Value.bool false, Value.bool false, Value.bool false, Value.bool false, Value.bool false, Value.bool false,
 Value.bool false, Value.bool false, Value.bool false, Value.bool false, Value.bool false, Value.bool false,
 Value.bool false, Value.bool false, Value.bool false, Value.bool false, Value.bool false, Value.bool false,
 Value.bool false, Value.bool false, Value.bool false, Value.bool false, Value.bool false, Value.bool false,
 Value.bool false, Value.bool false, Value.bool false, Value.bool false, Value.bool false, Value.bool false,
 Value.bool false, Value.bool false, Value.bool false, Value.bool false, Value.bool false, Value.bool false,
 Value.bool false, Value.bool false, Value.bool false, Value.bool false, Value.bool false, Value.bool false,
 Value.bool false, Value.bool false, Value.bool false, Value.bool false, Value.bool false, Value.bool false,
 Value.bool false, Value.bool false, Value.bool false, Value.bool false, Value.bool false, Value.bool false,
 Value.bool false, Value.bool false, Value.bool false, Value.bool false, Value.bool false, Value.bool false,
 Value.bool false, Value.bool false, Value.bool false, Value.bool false, Value.bool false, Value.bool false,
 Value.bool false, Value.bool false, Value.bool false, Value.bool false, Value.bool false, Value.bool false,
 Value.bool false, Value.bool false, Value.bool false, Value.bool false, Value.bool false, Value.bool false,
 Value.bool false, Value.bool false, Value.bool false, Value.bool false, Value.bool false, Value.bool false,
 Value.bool false, Value.bool false, Value.bool false, Value.bool false, Value.bool false, Value.bool false,
 Value.bool false, Value.bool false, Value.bool false]
 120)
 n w1 →
 ∀ (n_1 : Nat) (w1_1 : World),
 NewB w1
 (Obj.cells
 #[Value.bool false, Value.bool false, Value.bool false, Value.bool false, Value.bool false, Value.bool false,
 Value.bool false, Value.bool false, Value.bool false, Value.bool false, Value.bool false, Value.bool false,
 Value.bool false, Value.bool false, Value.bool false, Value.bool false, Value.bool false, Value.bool false,
 Value.bool false, Value.bool false, Value.bool false, Value.bool false, Value.bool false, Value.bool false,
 Value.bool false, Value.bool false, Value.bool false, Value.bool false, Value.bool false, Value.bool false,
 Value.bool false, Value.bool false, Value.bool false, Value.bool false, Value.bool false, Value.bool false,
 Value.bool false, Value.bool false, Value.bool false, Value.bool false, Value.bool false, Value.bool false,
 Value.bool false, Value.bool false, Value.bool false, Value.bool false, Value.bool false, Value.bool false,
 Value.bool false, Value.bool false, Value.bool false, Value.bool false, Value.bool false, Value.bool false,
 Value.bool false, Value.bool false, Value.bool false, Value.bool false, Value.bool false, Value.bool false,
 Value.bool false, Value.bool false, Value.bool false, Value.bool false, Value.bool false, Value.bool false,
 Value.bool false, Value.bool false, Value.bool false, Value.bool false, Value.bool false, Value.bool false,
 Value.bool false, Value.bool false, Value.bool false, Value.bool false, Value.bool false, Value.bool false,
 Value.bool false, Value.bool false, Value.bool false, Value.bool false, Value.bool false, Value.bool false,
 Value.bool false, Value.bool false, Value.bool false, Value.bool false, Value.bool false, Value.bool false,
 Value.bool false, Value.bool false, Value.bool false, Value.bool false, Value.bool false, Value.bool false,
 Value.bool false, Value.bool false, Value.bool false, Value.bool false, Value.bool false, Value.bool false,
 Value.bool false, Value.bool false, Value.bool false, Value.bool false, Value.bool false, Value.bool false,
 Value.bool false, Value.bool false, Value.bool false, Value.bool false, Value.bool false, Value.bool false,
 Value.bool false, Value.bool false, Value.bool false, Value.bool false, Value.bool false, Value.bool false,
 Value.bool false, Value.bool false, Value.bool false, Value.bool false, Value.bool false, Value.bool false,
 Value.bool false, Value.bool false, Value.bool false]
 120)
 n_1 w1_1 →
 gimp (decide (IntKind.i64.wrap (at_ + 1) < (↑s.size : Int)))
 (0 ≤ IntKind.i64.wrap (at_ + 1) ∧ IntKind.i64.wrap (at_ + 1) < (↑s.size : Int)) ∧
 ∃ (J : List Value → World → Prop),
 bsp (decide (IntKind.i64.wrap (at_ + 1) < (↑s.size : Int)) && at8 s (IntKind.i64.wrap (at_ + 1)).toNat == 94)
 (J [Value.int IntKind.i64 (IntKind.i64.wrap (IntKind.i64.wrap (at_ + 1) + 1))] w1_1)
 (J [Value.int IntKind.i64 (IntKind.i64.wrap (at_ + 1))] w1_1) ∧
 ∀ (x : Int) (w' : World),
 J [Value.int IntKind.i64 x] w' →
 ∃ (I : List Value → World → Prop),
 ∃ (m : List Value → World → Nat),
 I [Value.int IntKind.i64 x] w' ∧
 ∀ (x_1 : Int) (w' : World),
 I [Value.int IntKind.i64 x_1] w' →
 gimp (decide (x_1 < (↑s.size : Int))) (0 ≤ x_1 ∧ x_1 < (↑s.size : Int)) ∧
 bsp (decide (x_1 < (↑s.size : Int)) && at8 s x_1.toNat != 93)
 ((0 ≤ x_1 ∧ x_1 < (↑s.size : Int)) ∧
 bsp (!charB (at8 s x_1.toNat) || at8 s x_1.toNat == 45 && decide (x_1 > x))
 (∃ (x : Bool),
 ∃ (f : Nat → Bool),
 AtL w' n_1 0
 ([Value.bool x] ++ arrBo f 128 0) ∧
 WrL w' n 0 129 ∧
 ∀ (w1 : World),
 PutB w' n 0
 ([Value.bool x] ++ arrBo f 128 0)
 w1 →
 ∃ (x : Bool),
 ∃ (f : Nat → Bool),
 AtL w1 n 0
 ([Value.bool x] ++ arrBo f 128 0) ∧
 R
 (Ending.returned
 (Value.tuple
 #[Value.agg
 ([Value.bool x] ++ arrBo f 128 0).toArray,
 Value.int IntKind.i64 (-1)]))
 w1)
 (gimp (at8 s x_1.toNat != 45 && decide (IntKind.i64.wrap (x_1 + 1) < (↑s.size : Int)))
 (0 ≤ IntKind.i64.wrap (x_1 + 1) ∧ IntKind.i64.wrap (x_1 + 1) < (↑s.size : Int)) ∧
 bsp
 (at8 s x_1.toNat != 45 && decide (IntKind.i64.wrap (x_1 + 1) < (↑s.size : Int)) &&
 at8 s (IntKind.i64.wrap (x_1 + 1)).toNat == 45)
 (gimp (!(decide (IntKind.i64.wrap (x_1 + 2) ≥ (↑s.size : Int)) || alnumI (at8 s x_1.toNat) == 0))
 (0 ≤ IntKind.i64.wrap (x_1 + 2) ∧ IntKind.i64.wrap (x_1 + 2) < (↑s.size : Int)) ∧
 gimp
 (!(decide (IntKind.i64.wrap (x_1 + 2) ≥ (↑s.size : Int)) || alnumI (at8 s x_1.toNat) == 0 ||
 alnumI (at8 s (IntKind.i64.wrap (x_1 + 2)).toNat) != alnumI (at8 s x_1.toNat)))
 (0 ≤ IntKind.i64.wrap (x_1 + 2) ∧ IntKind.i64.wrap (x_1 + 2) < (↑s.size : Int)) ∧
 bsp
 (decide (IntKind.i64.wrap (x_1 + 2) ≥ (↑s.size : Int)) || alnumI (at8 s x_1.toNat) == 0 ||
 alnumI (at8 s (IntKind.i64.wrap (x_1 + 2)).toNat) != alnumI (at8 s x_1.toNat) ||
 decide (at8 s (IntKind.i64.wrap (x_1 + 2)).toNat < at8 s x_1.toNat))
 (∃ (x : Bool),
 ∃ (f : Nat → Bool),
 AtL w' n_1 0
 ([Value.bool x] ++ arrBo f 128 0) ∧
 WrL w' n 0 129 ∧
 ∀ (w1 : World),
 PutB w' n 0
 ([Value.bool x] ++ arrBo f 128 0)
 w1 →
 ∃ (x : Bool),
 ∃ (f : Nat → Bool),
 AtL w1 n 0
 ([Value.bool x] ++ arrBo f 128 0) ∧
 R
 (Ending.returned
 (Value.tuple
 #[Value.agg
 ([Value.bool x] ++ arrBo f 128 0).toArray,
 Value.int IntKind.i64 (-1)]))
 w1)
 (∃ (I_1 : List Value → World → Prop),
 ∃ (m_1 : List Value → World → Nat),
 I_1 [Value.int IntKind.i64 (IntKind.i64.wrap (at8 s x_1.toNat))] w' ∧
 ∀ (x : Int) (w'_1 : World),
 I_1 [Value.int IntKind.i64 x] w'_1 →
 (0 ≤ IntKind.i64.wrap (x_1 + 2) ∧ IntKind.i64.wrap (x_1 + 2) < (↑s.size : Int)) ∧
 bsp (decide (x ≤ IntKind.i64.wrap (at8 s (IntKind.i64.wrap (x_1 + 2)).toNat)))
 ((0 ≤ x ∧ x < (↑128 : Int)) ∧
 ((∃ (u : Value), w'_1.cell? (Addr.mk n_1 (0 + 1 + x.toNat) none) = some u) ∧
 w'_1.frozen? (Addr.mk n_1 (0 + 1 + x.toNat) none) = false) ∧
 ∀ (w1 : World),
 PutB w'_1 n_1 (0 + 1 + x.toNat) [Value.bool true] w1 →
 I_1 [Value.int IntKind.i64 (IntKind.i64.wrap (x + 1))] w1 ∧
 m_1 [Value.int IntKind.i64 (IntKind.i64.wrap (x + 1))] w1 <
 m_1 [Value.int IntKind.i64 x] w'_1)
 (I [Value.int IntKind.i64 (IntKind.i64.wrap (x_1 + 3))] w'_1 ∧
 m [Value.int IntKind.i64 (IntKind.i64.wrap (x_1 + 3))] w'_1 <
 m [Value.int IntKind.i64 x_1] w')))
 ((0 ≤ at8 s x_1.toNat ∧ at8 s x_1.toNat < (↑128 : Int)) ∧
 ((∃ (u : Value), w'.cell? (Addr.mk n_1 (0 + 1 + (at8 s x_1.toNat).toNat) none) = some u) ∧
 w'.frozen? (Addr.mk n_1 (0 + 1 + (at8 s x_1.toNat).toNat) none) = false) ∧
 ∀ (w1 : World),
 PutB w' n_1 (0 + 1 + (at8 s x_1.toNat).toNat) [Value.bool true] w1 →
 I [Value.int IntKind.i64 (IntKind.i64.wrap (x_1 + 1))] w1 ∧
 m [Value.int IntKind.i64 (IntKind.i64.wrap (x_1 + 1))] w1 < m [Value.int IntKind.i64 x_1] w')))
 (bsp (decide (x_1 ≥ (↑s.size : Int)) || x_1 == x)
 (∃ (x : Bool),
 ∃ (f : Nat → Bool),
 AtL w' n_1 0
 ([Value.bool x] ++ arrBo f 128 0) ∧
 WrL w' n 0 129 ∧
 ∀ (w1 : World),
 PutB w' n 0
 ([Value.bool x] ++ arrBo f 128 0)
 w1 →
 ∃ (x : Bool),
 ∃ (f : Nat → Bool),
 AtL w1 n 0
 ([Value.bool x] ++ arrBo f 128 0) ∧
 R
 (Ending.returned
 (Value.tuple
 #[Value.agg
 ([Value.bool x] ++ arrBo f 128 0).toArray,
 Value.int IntKind.i64 (-1)]))
 w1)
 (∃ (J : List Value → World → Prop),
 bsp
 (decide (IntKind.i64.wrap (at_ + 1) < (↑s.size : Int)) &&
 at8 s (IntKind.i64.wrap (at_ + 1)).toNat == 94)
 (∃ (I : List Value → World → Prop),
 ∃ (m : List Value → World → Nat),
 I [Value.int IntKind.i64 0] w' ∧
 ∀ (x : Int) (w' : World),
 I [Value.int IntKind.i64 x] w' →
 bsp (decide (x < 128))
 (gimp (charB (IntKind.u8.wrap x)) (0 ≤ x ∧ x < (↑128 : Int)) ∧
 ∃ (x_2 : Bool),
 gimp (charB (IntKind.u8.wrap x))
 (w'.cell? (Addr.mk n_1 (0 + 1 + x.toNat) none) = some (Value.bool x_2)) ∧
 (0 ≤ x ∧ x < (↑128 : Int)) ∧
 ((∃ (u : Value), w'.cell? (Addr.mk n_1 (0 + 1 + x.toNat) none) = some u) ∧
 w'.frozen? (Addr.mk n_1 (0 + 1 + x.toNat) none) = false) ∧
 ∀ (w1 : World),
 PutB w' n_1 (0 + 1 + x.toNat) [Value.bool (charB (IntKind.u8.wrap x) && !x_2)] w1 →
 I [Value.int IntKind.i64 (IntKind.i64.wrap (x + 1))] w1 ∧
 m [Value.int IntKind.i64 (IntKind.i64.wrap (x + 1))] w1 <
 m [Value.int IntKind.i64 x] w')
 (J [] w'))
 (J [] w') ∧
 ∀ (w' : World),
 J [] w' →
 ∃ (x : Bool),
 ∃ (f : Nat → Bool),
 AtL w' n_1 0
 ([Value.bool x] ++ arrBo f 128 0) ∧
 WrL w' n 0 129 ∧
 ∀ (w1 : World),
 PutB w' n 0
 ([Value.bool x] ++ arrBo f 128 0)
 w1 →
 ∃ (x : Bool),
 ∃ (f : Nat → Bool),
 AtL w1 n 0
 ([Value.bool x] ++ arrBo f 128 0) ∧
 R
 (Ending.returned
 (Value.tuple
 #[Value.agg
 ([Value.bool x] ++ arrBo f 128 0).toArray,
 Value.int IntKind.i64 (IntKind.i64.wrap (x_1 + 1))]))
 w1))
theorem vc_rclass (s : ByteArray) (at_ : Int) (w : World) (R : Ending → World → Prop) (h : VC_rclass s at_ w R) : Calls Tryz.prog 59 ([Value.string
    s,
  Value.int IntKind.i64 at_] : List Value).toArray w R := by
  have e : execR { P := Tryz.prog, loops := [(7, [(7, Ck.int IntKind.i64)]), (15, [(11, Ck.int IntKind.i64)]), (25, [(12, Ck.int IntKind.i64)])], pur := pur1, tails := [], joins := [(6, [(7, Ck.int IntKind.i64)]), (28, [])], boxes := [] } Tryz.f59.results.toList R (Tryz.f59.body.getD .skip) (initF [Value.string
    s,
  Value.int IntKind.i64
    at_] (Tryz.f59.ntmps - ([Value.string s,
  Value.int IntKind.i64 at_] : List Value).length)) w = VC_rclass s at_ w R := by kernel_rfl
  have hb : Tryz.f59.body = some (Tryz.f59.body.getD .skip) := by kernel_rfl
  exact calls_of_exec' (P := Tryz.prog) (fn := Tryz.f59) (c := Tryz.f59.body.getD .skip) (args := [Value.string s,
  Value.int IntKind.i64 at_]) (w := w) (R := R) pur1_ok Tryz.func59 hb e h

end Go.Proofs.YtmjanmffnblcoaaGreatDoor

/- The contract of the reference's class: it agrees with the program's parseClass. The text has at most 2^20 bytes. -/
namespace Go.Proofs.YtmjanmffnblcoaaGreatDoor
open Go.RowKit

theorem arrBo_length (f : Nat → Bool) : ∀ n i, (arrBo f n i).length = n
  | 0, _ => rfl
  | n + 1, i => by simp [arrBo, arrBo_length f n]
theorem arrBo_get (f : Nat → Bool) : ∀ (n i j : Nat), j < n → (arrBo f n i)[j]? = some (.bool (f (i + j)))
  | 0, _, j, h => by omega
  | n + 1, i, 0, _ => by simp [arrBo]
  | n + 1, i, j + 1, h => by
    simp only [arrBo, List.getElem?_cons_succ]
    rw [arrBo_get f n (i + 1) j (by omega)]
    congr 3; omega
theorem arrBo_none (f : Nat → Bool) (n i j : Nat) (h : n ≤ j) : (arrBo f n i)[j]? = none := List.getElem?_eq_none (by rw [arrBo_length]; exact h)
theorem arrBo_congr {f g : Nat → Bool} {n i : Nat} (h : ∀ j, j < n → f (i + j) = g (i + j)) : arrBo f n i = arrBo g n i := by
  apply List.ext_getElem?
  intro j
  rcases Nat.lt_or_ge j n with hj | hj
  · rw [arrBo_get f n i j hj, arrBo_get g n i j hj, h j hj]
  · rw [arrBo_none f n i j hj, arrBo_none g n i j hj]
theorem arrBo_set (f : Nat → Bool) (n k : Nat) (b : Bool) : (arrBo f n 0).set k (.bool b) = arrBo (fun j => if j = k then b else f j) n 0 := by
  apply List.ext_getElem?
  intro j
  rcases Nat.lt_or_ge j n with hj | hj
  · rw [List.getElem?_set, arrBo_length, arrBo_get _ n 0 j hj, arrBo_get _ n 0 j hj, Nat.zero_add]
    by_cases e : k = j
    · subst e; rw [if_pos rfl, if_pos hj, if_pos rfl]
    · rw [if_neg e, if_neg (fun h => e h.symm)]
  · rw [arrBo_none _ n 0 j hj, List.getElem?_eq_none (by rw [List.length_set, arrBo_length]; exact hj)]
/-- The cells of an element of the reference. -/
def reL (b : Bool) (f : Nat → Bool) : List Value := [Value.bool b] ++ arrBo f 128 0
theorem reL_length (b : Bool) (f : Nat → Bool) : (reL b f).length = 129 := by unfold reL; simp [arrBo_length]
def SetB (w : World) (n : Nat) (b : Bool) (f : Nat → Bool) : Prop := w.heap[n]? = some (.cells (reL b f).toArray 120 (0, 0))
theorem SetB.kp {M : Nat → Prop} {w w' : World} {n : Nat} {b : Bool} {f : Nat → Bool} (h : SetB w n b f) (hk : Kp M w w') (hm : ¬ M n) : SetB w' n b f := hk.blk h hm
theorem SetB.congr {w : World} {n : Nat} {b : Bool} {f g : Nat → Bool} (h : SetB w n b f) (e : ∀ c, c < 128 → f c = g c) : SetB w n b g := by
  unfold SetB at h ⊢
  rw [h]
  unfold reL
  rw [arrBo_congr (f := f) (g := g) (fun j hj => by rw [Nat.zero_add]; exact e j hj)]
theorem SetB.at_ {w : World} {n : Nat} {b : Bool} {f : Nat → Bool} (h : SetB w n b f) : AtL w n 0 ([Value.bool b] ++ arrBo f 128 0) := by
  refine AtL_block h ?_
  simp [reL]
theorem SetB.cell {w : World} {n : Nat} {b : Bool} {f : Nat → Bool} (h : SetB w n b f) {k : Nat} (hk : k < 128) : w.cell? ⟨n, 0 + 1 + k, none⟩ = some (.bool (f k)) := by
  refine cell_at h ?_
  rw [show 0 + 1 + k = k + 1 by omega]
  simp [reL, arrBo_get f 128 0 k hk]
theorem SetB.wr {w : World} {n : Nat} {b : Bool} {f : Nat → Bool} (h : SetB w n b f) {k : Nat} (hk : k < 128) : (∃ u, w.cell? ⟨n, 0 + 1 + k, none⟩ = some u) ∧ w.frozen? ⟨n, 0 + 1 + k, none⟩ = false := ⟨⟨_, h.cell hk⟩, frozen_block h _⟩
theorem SetB.wrl {w : World} {n : Nat} {b : Bool} {f : Nat → Bool} (h : SetB w n b f) : WrL w n 0 129 := WrL_block h (by simp [reL_length])
theorem SetB.put {w w1 : World} {n : Nat} {b : Bool} {f : Nat → Bool} (h : SetB w n b f) {k : Nat} {v : Bool} (hp : PutB w n (0 + 1 + k) [.bool v] w1) : SetB w1 n b (fun j => if j = k then v else f j) := by
  have := hp.block h
  unfold SetB
  rw [this]
  congr 2
  rw [show 0 + 1 + k = k + 1 by omega]
  simp only [putL, reL, List.cons_append, List.nil_append, List.set_cons_succ, arrBo_set]
theorem SetB.full {w w1 : World} {n : Nat} {b b' : Bool} {f f' : Nat → Bool} (h : SetB w n b f) (hp : PutB w n 0 ([Value.bool b'] ++ arrBo f' 128 0) w1) : SetB w1 n b' f' := hp.full h (by simp [reL, arrBo_length])
theorem setB_new {w w1 : World} {n : Nat} {cs : Array Value} (hc : cs = (reL false (fun _ => false)).toArray) (h : NewB w (.cells cs 120) n w1) : SetB w1 n false (fun _ => false) := by
  subst hc; exact h.block

theorem hasPrefix_cons2 (a b : UInt8) (r : List UInt8) : Lib.hasPrefix (a :: b :: r) [91, 94] = (a == 91 && b == 94) := by
  rw [Bool.eq_iff_iff]
  simp [Lib.hasPrefix, List.isPrefixOf]
  constructor <;> (rintro ⟨rfl, rfl⟩; exact ⟨rfl, rfl⟩)
theorem negB_eq {t : ByteArray} (h0 : 0 < t.size) (h : at8 t 0 = 91) : negB t = (decide (1 < t.size) && at8 t 1 == 94) := by
  unfold negB
  have g0 := at8_byte h0
  rw [h] at g0
  have hl : t.data.toList.length = t.size := t.data.length_toList
  cases hd : t.data.toList with
  | nil => rw [hd] at hl; simp at hl; omega
  | cons a r =>
    rw [hd] at g0 hl
    simp at g0
    subst g0
    cases r with
    | nil =>
      have : ¬ 1 < t.size := by simp at hl; omega
      simp [this, Lib.hasPrefix]
    | cons b r =>
      have h1 : 1 < t.size := by simp at hl; omega
      have g1 := at8_byte h1
      rw [hd] at g1
      simp at g1
      rw [hasPrefix_cons2, g1]
      have := byte_inj (c := 94) (d := at8 t 1) (by omega) (at8_bd t 1)
      have e : ((94 : Int).toNat.toUInt8) = (94 : UInt8) := rfl
      rw [e] at this
      rw [this]
      simp [h1, Bool.beq_eq_decide_eq]
theorem items_stop {u : ByteArray} {f j : Nat} {p : Int → Bool} (h1 : rngB u j = false) (h2 : singB u j = false) : itemsS u f j p = (p, j) := by
  cases f with
  | zero => rfl
  | succ f => unfold itemsS; simp [h1, h2]
theorem cls0 {t : ByteArray} {j : Nat} (h : (listS t).2 = j) (h' : j = 0 ∨ fromN t + j = t.size ∨ at8 t (fromN t + j) ≠ 93) : clsN t = 0 := by
  unfold clsN
  rw [h, if_pos h']
theorem alB_char {c : Int} (h : alB c = true) : charB c = true := by simp [alB] at h; simp [charB]; rcases h with h | h <;> simp [h]
theorem not_alB {c : Int} (h : c = 45 ∨ c = 93) : alB c = false := by rcases h with rfl | rfl <;> decide
theorem alnum_zero {c : Int} : (alnumI c == 0) = !alB c := by
  unfold alnumI alB
  cases lowerB c <;> cases digitB c <;> simp
theorem alnum_bad {c l : Int} (hc : alB c = true) : (alnumI l != alnumI c || decide (l < c)) = badB c l := by
  unfold badB
  have : (alnumI l != alnumI c) = (lowerB c != lowerB l || digitB c != digitB l) := by
    unfold alnumI
    have hx : ∀ x : Int, ¬ (lowerB x = true ∧ digitB x = true) := fun x ⟨h1, h2⟩ => by simp [lowerB] at h1; simp [digitB] at h2; omega
    have h1 := hx c
    have h2 := hx l
    unfold alB at hc
    cases hlc : lowerB c <;> cases hdc : digitB c <;> cases hll : lowerB l <;> cases hdl : digitB l <;> simp_all
  rw [this]
  cases decide (l < c) <;> simp
theorem alB_mid {c l d : Int} (hc : alB c = true) (hb : badB c l = false) (h1 : c ≤ d) (h2 : d ≤ l) : charB d = true := by
  simp [badB] at hb
  obtain ⟨⟨_, h3⟩, h4⟩ := hb
  simp [alB] at hc
  rcases hc with hc | hc
  · rw [hc] at h3
    simp [lowerB] at hc h3
    simp [charB, lowerB]
    omega
  · rw [hc] at h4
    simp [digitB] at hc h4
    simp [charB, lowerB, digitB]
    omega
theorem sing_char {u : ByteArray} {j : Nat} (h : charB (at8 u j) = true) (h' : ¬ (at8 u j = 45 ∧ 0 < j)) : singB u j = true := by
  unfold singB
  simp [charB] at h
  simp [alB]
  grind
theorem sing_not {u : ByteArray} {j : Nat} (h : charB (at8 u j) = false ∨ (at8 u j = 45 ∧ 0 < j)) : singB u j = false ∧ rngB u j = false := by
  have hal : alB (at8 u j) = false := by
    rcases h with h | h
    · cases ha : alB (at8 u j) with
      | false => rfl
      | true => rw [alB_char ha] at h; cases h
    · exact not_alB (.inl h.1)
  refine ⟨?_, by unfold rngB; rw [hal]; rfl⟩
  unfold singB
  rw [hal]
  rcases h with h | h
  · simp [charB] at h
    simp
    omega
  · rw [h.1]
    simp
    omega
theorem hasB_filter (q : UInt8 → Bool) (c : Int) (h0 : 0 ≤ c) (h1 : c ≤ 255) : hasB ⟨(nameBytes.data.toList.filter q).toArray⟩ c = (charB c && q c.toNat.toUInt8) := by
  rw [← name_char c h0 h1]
  unfold hasB
  simp only
  rw [Bool.eq_iff_iff]
  simp only [List.contains_iff_mem, Bool.and_eq_true, List.mem_filter]

set_option maxHeartbeats 1000000 in
set_option maxRecDepth 100000 in
theorem rclass_any (s : ByteArray) (k : Nat) (w : World) (hk : k < s.size) (h91 : at8 s k = 91) (hs : s.size ≤ 1048576) :
    Calls Tryz.prog 59 #[.string s, .int .i64 k] w fun e w' => K0 w w' ∧
      ((clsN (s.extract k s.size) = 0 ∧ ∃ b f, e = .returned (.tuple #[.agg (reL b f).toArray, .int .i64 (-1)])) ∨
       (clsN (s.extract k s.size) ≠ 0 ∧ ∃ f, e = .returned (.tuple #[.agg (reL false f).toArray, .int .i64 (k + clsN (s.extract k s.size) : Nat)]) ∧ RelE (.cls (clsS (s.extract k s.size))) ⟨false, f⟩)) := by
  generalize ht : s.extract k s.size = t
  have tsz : t.size = s.size - k := by rw [← ht, ByteArray.size_extract]; omega
  have tat : ∀ j, j < t.size → at8 t j = at8 s (k + j) := fun j hj => by rw [← ht]; exact at8_extract s k s.size j (by omega) (Nat.le_refl _)
  have t0 : at8 t 0 = 91 := by rw [tat 0 (by omega)]; exact h91
  have hneg := negB_eq (t := t) (by omega) t0
  refine vc_rclass s k w _ ?_
  intro n w1 hn n1 w2 hn1
  have b1 : SetB w2 n false (fun _ => false) := (setB_new (by kernel_rfl) hn).kp (hn1.kp (fun _ => False)) (fun h => h)
  have b2 : SetB w2 n1 false (fun _ => false) := setB_new (by kernel_rfl) hn1
  have hne : n ≠ n1 := by have := hn.size; have := hn1.hn; omega
  have g1 : w.heap.size ≤ n := hn.ge
  have g2 : w.heap.size ≤ n1 := by have := hn.size; have := hn1.hn; omega
  have k2 : K0 w w2 := (hn.kp _).trans (hn1.kp _)
  rw [wr64 (x := (k : Int) + 1) (by omega) (by omega), wr64 (x := (k : Int) + 1 + 1) (by omega) (by omega)]
  have e1 : ((k : Int) + 1).toNat = k + 1 := by omega
  rw [e1]
  -- the sign of the class
  have hsg : (decide ((k : Int) + 1 < (s.size : Int)) && at8 s (k + 1) == 94) = negB t := by
    rw [hneg]
    by_cases h : 1 < t.size
    · rw [tat 1 h]
      have h1 : decide ((k : Int) + 1 < (s.size : Int)) = true := by simp; omega
      rw [h1]
      simp [h]
    · have h1 : decide ((k : Int) + 1 < (s.size : Int)) = false := by simp; omega
      rw [h1]
      simp [h]
  rw [hsg]
  refine ⟨gimp_intro fun h => ⟨by omega, by simpa using h⟩, fun vs w' => vs = [.int .i64 ((k + fromN t : Nat) : Int)] ∧ w' = w2, ?_, ?_⟩
  · refine bsp_intro (fun h => ⟨?_, rfl⟩) (fun h => ⟨?_, rfl⟩)
    · unfold fromN; rw [if_pos h]; congr 2
    · unfold fromN; rw [if_neg (by rw [h]; decide)]; congr 2
  rintro x w' ⟨hx, rfl⟩
  have hx : x = ((k + fromN t : Nat) : Int) := by simpa using hx
  subst hx
  have hfrom : fromN t ≤ t.size := by
    unfold fromN
    split
    · rename_i h; exact hasPrefix_size h
    · omega
  have hfrom1 : 1 ≤ fromN t := by unfold fromN; split <;> omega
  generalize hu : restB t = u
  have usz : u.size = t.size - fromN t := by rw [← hu]; unfold restB; rw [ByteArray.size_extract]; omega
  have uat : ∀ j, j < u.size → at8 u j = at8 s (k + fromN t + j) := fun j hj => by
    rw [← hu]; unfold restB
    rw [at8_extract t _ _ j (by omega) (Nat.le_refl _), tat _ (by omega), Nat.add_assoc]
  have utat : ∀ j, j < u.size → at8 t (fromN t + j) = at8 u j := fun j hj => by rw [uat j hj, tat _ (by omega), Nat.add_assoc]
  have hL : listS t = itemsS u u.size 0 (fun _ => false) := by unfold listS; rw [hu]
  generalize hfr : fromN t = fr at *
  have bad : ∀ (wx : World) (f : Nat → Bool), SetB wx n1 false f → SetB wx n false (fun _ => false) → K0 w wx → clsN t = 0 →
      ∃ (x : Bool) (f : Nat → Bool), AtL wx n1 0 ([Value.bool x] ++ arrBo f 128 0) ∧ WrL wx n 0 129 ∧ ∀ (w1 : World), PutB wx n 0 ([Value.bool x] ++ arrBo f 128 0) w1 →
        ∃ (x : Bool) (f : Nat → Bool), AtL w1 n 0 ([Value.bool x] ++ arrBo f 128 0) ∧ (K0 w w1 ∧ ((clsN t = 0 ∧ ∃ b g, Ending.returned (.tuple #[.agg ([Value.bool x] ++ arrBo f 128 0).toArray, .int .i64 (-1)]) = .returned (.tuple #[.agg (reL b g).toArray, .int .i64 (-1)])) ∨
          (clsN t ≠ 0 ∧ ∃ g, Ending.returned (.tuple #[.agg ([Value.bool x] ++ arrBo f 128 0).toArray, .int .i64 (-1)]) = .returned (.tuple #[.agg (reL false g).toArray, .int .i64 (k + clsN t : Nat)]) ∧ RelE (.cls (clsS t)) ⟨false, g⟩))) := fun wx f h1 h2 hkx h0 =>
    ⟨false, f, h1.at_, h2.wrl, fun wy hp => ⟨false, f, (h2.full hp).at_, hkx.fresh hp.kp (fun i hi e => by omega), .inl ⟨h0, false, f, rfl⟩⟩⟩
  refine ⟨fun vs wx => ∃ (j fl : Nat) (f : Nat → Bool) (p : Int → Bool), vs = [.int .i64 ((k + fr + j : Nat) : Int)] ∧ j ≤ u.size ∧ u.size - j ≤ fl ∧ itemsS u fl j p = listS t ∧ SetB wx n1 false f ∧ SetB wx n false (fun _ => false) ∧ (∀ c : Nat, c < 128 → f c = p c) ∧ (∀ c, p c = true → charB c = true) ∧ K0 w wx,
    fun vs _ => (match vs with | .int _ x :: _ => s.size + 4 - x.toNat | _ => 0), ⟨0, u.size, _, (fun _ => false), rfl, by omega, by omega, hL.symm, b2, b1, (fun _ _ => rfl), (fun _ h => by cases h), k2⟩, ?_⟩
  rintro x wx ⟨j, fl, f, p, hv, hj, hfl, hS, hb, hb0, hfp, hpc, hkx⟩
  have hv : x = ((k + fr + j : Nat) : Int) := by simpa using hv
  subst hv
  have hsz : s.size = k + fr + u.size := by omega
  have ej : (((k + fr + j : Nat) : Int)).toNat = k + fr + j := Int.toNat_natCast _
  rw [ej]
  refine ⟨gimp_intro fun h => ⟨by omega, by simpa using h⟩, bsp_intro (fun h => ?_) (fun h => ?_)⟩
  · have hlt : j < u.size := by simp at h; omega
    have h93 : at8 s (k + fr + j) ≠ 93 := by simp at h; exact h.2
    rw [← uat j hlt] at h93 ⊢
    obtain ⟨fl, rfl⟩ : ∃ g, fl = g + 1 := ⟨fl - 1, by omega⟩
    refine ⟨⟨by omega, by omega⟩, bsp_intro (fun hc => ?_) (fun hc => ?_)⟩
    · refine bad wx f hb hb0 hkx ?_
      have hc : charB (at8 u j) = false ∨ (at8 u j = 45 ∧ 0 < j) := by
        simp only [Bool.or_eq_true, Bool.not_eq_true', Bool.and_eq_true, beq_iff_eq, decide_eq_true_eq] at hc
        rcases hc with h | h
        · exact .inl h
        · exact .inr ⟨h.1, by omega⟩
      obtain ⟨q1, q2⟩ := sing_not hc
      rw [items_stop q2 q1] at hS
      refine cls0 (j := j) (by rw [← hS]) (.inr (.inr ?_))
      rw [hfr, utat j hlt]; exact h93
    have hch : charB (at8 u j) = true := by
      cases hx : charB (at8 u j) with
      | true => rfl
      | false => rw [hx] at hc; simp at hc
    have hd : ¬ (at8 u j = 45 ∧ 0 < j) := fun hx => by
      rw [hch] at hc
      simp only [Bool.not_true, Bool.false_or, Bool.and_eq_false_iff, beq_eq_false_iff_ne, decide_eq_false_iff_not] at hc
      rcases hc with h | h
      · exact h hx.1
      · exact h (by omega)
    have hsing := sing_char hch hd
    rw [wr64 (x := ((k + fr + j : Nat) : Int) + 1) (by omega) (by omega), wr64 (x := ((k + fr + j : Nat) : Int) + 2) (by omega) (by omega), wr64 (x := ((k + fr + j : Nat) : Int) + 3) (by omega) (by omega)]
    have ej1 : (((k + fr + j : Nat) : Int) + 1).toNat = k + fr + (j + 1) := by omega
    have ej2 : (((k + fr + j : Nat) : Int) + 2).toNat = k + fr + (j + 2) := by omega
    rw [ej1, ej2]
    refine ⟨gimp_intro fun h => ⟨by omega, by simp at h; omega⟩, bsp_intro (fun hr => ?_) (fun hr => ?_)⟩
    · simp only [Bool.and_eq_true, bne_iff_ne, ne_eq, decide_eq_true_eq, beq_iff_eq] at hr
      obtain ⟨⟨hn45, hlt1⟩, h45⟩ := hr
      have hlt1 : j + 1 < u.size := by omega
      rw [← uat (j + 1) hlt1] at h45
      refine ⟨gimp_intro fun h => ⟨by omega, by simp at h; omega⟩, gimp_intro fun h => ⟨by omega, by simp at h; omega⟩, bsp_intro (fun hbd => ?_) (fun hbd => ?_)⟩
      · refine bad wx f hb hb0 hkx ?_
        by_cases hrn : rngB u j = true
        · have hrn' := hrn
          simp only [rngB, Bool.and_eq_true, decide_eq_true_eq, beq_iff_eq] at hrn
          have hbb : badB (at8 u j) (at8 u (j + 2)) = true := by
            have h2 : decide (((k + fr + j : Nat) : Int) + 2 ≥ (s.size : Int)) = false := by simp; omega
            rw [h2, alnum_zero, hrn.1.1, ← uat (j + 2) hrn.1.2] at hbd
            rw [← alnum_bad hrn.1.1]
            simpa using hbd
          have : itemsS u (fl + 1) j p = (p, j) := by unfold itemsS; rw [if_pos hlt, if_pos hrn', if_pos hbb]
          rw [this] at hS
          refine cls0 (j := j) (by rw [← hS]) (.inr (.inr ?_))
          rw [hfr, utat j hlt]; exact h93
        · have hst : itemsS u (fl + 1) j p = (fun d => p d || decide (d = at8 u j), j + 1) := by
            unfold itemsS
            rw [if_pos hlt, if_neg hrn, if_pos hsing]
            obtain ⟨q1, q2⟩ := sing_not (u := u) (j := j + 1) (.inr ⟨h45, by omega⟩)
            exact items_stop q2 q1
          rw [hst] at hS
          refine cls0 (j := j + 1) (by rw [← hS]) (.inr (.inr ?_))
          rw [hfr, utat (j + 1) hlt1, h45]; decide
      · -- a range
        have hlt2 : j + 2 < u.size := by simp at hbd; omega
        rw [← uat (j + 2) hlt2] at hbd ⊢
        have h2 : decide (((k + fr + j : Nat) : Int) + 2 ≥ (s.size : Int)) = false := by simp; omega
        rw [h2, alnum_zero] at hbd
        have hal : alB (at8 u j) = true := by
          cases hx : alB (at8 u j) with
          | true => rfl
          | false => rw [hx] at hbd; simp at hbd
        rw [hal] at hbd
        have hbb : badB (at8 u j) (at8 u (j + 2)) = false := by rw [← alnum_bad hal]; simpa using hbd
        obtain ⟨hle, hall⟩ := badB_not hbb hal
        have hcb := alB_bd hal
        have hlb := alB_bd hall
        have hrn : rngB u j = true := by simp [rngB, hal, hlt2, h45]
        have hst : itemsS u (fl + 1) j p = itemsS u fl (j + 3) (fun d => p d || (decide (at8 u j ≤ d) && decide (d ≤ at8 u (j + 2)))) := by
          conv => lhs; unfold itemsS
          rw [if_pos hlt, if_pos hrn, if_neg (by rw [hbb]; decide)]
        have hmid := fun d (h1 : at8 u j ≤ d) (h2 : d ≤ at8 u (j + 2)) => alB_mid hal hbb h1 h2
        generalize at8 u j = c at *
        generalize at8 u (j + 2) = l at *
        rw [wr64 (x := c) (by omega) (by omega), wr64 (x := l) (by omega) (by omega)]
        refine ⟨fun vs wy => ∃ m : Nat, vs = [.int .i64 (c + m)] ∧ c + m ≤ l + 1 ∧ SetB wy n1 false (fun d => f d || (decide (c ≤ (d : Int)) && decide ((d : Int) < c + m))) ∧ SetB wy n false (fun _ => false) ∧ K0 w wy,
          fun vs _ => (match vs with | .int _ x :: _ => (l + 2 - x).toNat | _ => 0), ⟨0, by simp, by omega, hb.congr (fun d _ => by
            have : (decide (c ≤ (d : Int)) && decide ((d : Int) < c + (0 : Nat))) = false := by simp
            rw [this, Bool.or_false]), hb0, hkx⟩, ?_⟩
        rintro x wy ⟨m, hv, hm, hby, hby0, hky⟩
        have hv : x = c + m := by simpa using hv
        subst hv
        refine ⟨⟨by omega, by omega⟩, bsp_intro (fun hxl => ?_) (fun hxl => ?_)⟩
        · have hxl : c + (m : Int) ≤ l := by simpa using hxl
          have hlt128 : (c + (m : Int)).toNat < 128 := by omega
          refine ⟨⟨by omega, by omega⟩, hby.wr hlt128, fun wz hp => ⟨⟨m + 1, ?_, by omega, (hby.put hp).congr (fun d _ => ?_), hby0.kp hp.kp (fun e => hne e), hky.fresh hp.kp (fun i hi e => by omega)⟩, ?_⟩⟩
          · rw [wr64 (by omega) (by omega)]; congr 2; omega
          · show (if d = (c + (m : Int)).toNat then true else (f d || (decide (c ≤ (d : Int)) && decide ((d : Int) < c + m)))) = (f d || (decide (c ≤ (d : Int)) && decide ((d : Int) < c + ((m + 1 : Nat) : Int))))
            by_cases e : d = (c + (m : Int)).toNat
            · rw [if_pos e]
              have : (decide (c ≤ (d : Int)) && decide ((d : Int) < c + ((m + 1 : Nat) : Int))) = true := by simp; omega
              rw [this]; simp
            · rw [if_neg e]
              have : decide ((d : Int) < c + (m : Int)) = decide ((d : Int) < c + ((m + 1 : Nat) : Int)) := by
                rw [decide_eq_decide]; omega
              rw [this]
          · rw [wr64 (by omega) (by omega)]
            simp only
            omega
        · have hxl : ¬ c + (m : Int) ≤ l := by simpa using hxl
          have hml : c + (m : Int) = l + 1 := by omega
          refine ⟨⟨j + 3, fl, _, _, ?_, by omega, by omega, hst.symm.trans hS, hby, hby0, fun d hd => ?_, fun d hd => ?_, hky⟩, ?_⟩
          · congr 2
          · show (f d || (decide (c ≤ (d : Int)) && decide ((d : Int) < c + m))) = (p d || (decide (c ≤ (d : Int)) && decide ((d : Int) ≤ l)))
            rw [hfp d hd, hml]
            have : decide ((d : Int) < l + 1) = decide ((d : Int) ≤ l) := by rw [decide_eq_decide]; omega
            rw [this]
          · simp only [Bool.or_eq_true, Bool.and_eq_true, decide_eq_true_eq] at hd
            rcases hd with hd | hd
            · exact hpc d hd
            · exact hmid d hd.1 hd.2
          · simp only; omega
    · -- a single character
      have hrn : ¬ rngB u j = true := fun hrn => by
        simp only [rngB, Bool.and_eq_true, decide_eq_true_eq, beq_iff_eq] at hrn
        have h1 : decide (((k + fr + j : Nat) : Int) + 1 < (s.size : Int)) = true := by simp; omega
        rw [h1, ← uat (j + 1) (by omega), hrn.2] at hr
        have h45 : at8 u j = 45 := by simpa using hr
        have := hrn.1.1
        rw [h45] at this
        revert this; decide
      have hst : itemsS u (fl + 1) j p = itemsS u fl (j + 1) (fun d => p d || decide (d = at8 u j)) := by
        conv => lhs; unfold itemsS
        rw [if_pos hlt, if_neg hrn, if_pos hsing]
      have hcb := charB_lt hch
      generalize at8 u j = c at *
      have hlt128 : c.toNat < 128 := by omega
      refine ⟨⟨by omega, by omega⟩, hb.wr hlt128, fun wz hp => ⟨⟨j + 1, fl, _, _, by congr 2, by omega, by omega, hst.symm.trans hS, hb.put hp, hb0.kp hp.kp (fun e => hne e), fun d hd => ?_, fun d hd => ?_, hkx.fresh hp.kp (fun i hi e => by omega)⟩, ?_⟩⟩
      · show (if d = c.toNat then true else f d) = (p d || decide ((d : Int) = c))
        by_cases e : d = c.toNat
        · rw [if_pos e]
          have : decide ((d : Int) = c) = true := by simp; omega
          rw [this]; simp
        · rw [if_neg e, hfp d hd]
          have : decide ((d : Int) = c) = false := by simp; omega
          rw [this]; simp
      · simp only [Bool.or_eq_true, decide_eq_true_eq] at hd
        rcases hd with hd | hd
        · exact hpc d hd
        · rw [hd]; exact hch
      · simp only; omega
  · -- the end of the items
    have hend : u.size ≤ j ∨ (j < u.size ∧ at8 u j = 93) := by
      rcases Nat.lt_or_ge j u.size with hlt | hge
      · right
        refine ⟨hlt, ?_⟩
        have h1 : decide (((k + fr + j : Nat) : Int) < (s.size : Int)) = true := by simp; omega
        rw [h1, ← uat j hlt] at h
        simpa using h
      · exact .inl hge
    have hstop : listS t = (p, j) := by
      rw [← hS]
      rcases hend with he | ⟨hlt, h93⟩
      · cases fl with
        | zero => rfl
        | succ fl => unfold itemsS; rw [if_neg (by omega)]
      · have h1 : charB (at8 u j) = false := by rw [h93]; decide
        obtain ⟨q1, q2⟩ := sing_not (.inl h1)
        exact items_stop q2 q1
    refine bsp_intro (fun hb1 => bad wx f hb hb0 hkx ?_) (fun hb1 => ?_)
    · refine cls0 (j := j) (by rw [hstop]) ?_
      simp only [Bool.or_eq_true, decide_eq_true_eq, beq_iff_eq] at hb1
      rw [hfr]
      rcases hb1 with h1 | h1
      · exact .inr (.inl (by omega))
      · exact .inl (by omega)
    simp only [Bool.or_eq_false_iff, decide_eq_false_iff_not, beq_eq_false_iff_ne] at hb1
    obtain ⟨hb1, hb2⟩ := hb1
    have hlt : j < u.size := by omega
    have h93 : at8 u j = 93 := by
      rcases hend with he | he
      · omega
      · exact he.2
    have hcn : clsN t = fr + j + 1 := by
      unfold clsN
      rw [hstop, hfr]
      simp only
      rw [if_neg]
      rintro (h1 | h1 | h1)
      · exact hb2 (by omega)
      · omega
      · rw [utat j hlt] at h1; exact h1 h93
    have hcs : clsS t = ⟨(nameBytes.data.toList.filter fun b => !(p b.toNat == negB t)).toArray⟩ := by
      unfold clsS
      rw [if_neg (by omega), hstop]
    have fin : ∀ (wy : World) (g : Nat → Bool), (∀ c : Nat, c < 128 → g c = (charB c && !(p c == negB t))) → SetB wy n1 false g → SetB wy n false (fun _ => false) → K0 w wy →
        ∃ (x : Bool) (f : Nat → Bool), AtL wy n1 0 ([Value.bool x] ++ arrBo f 128 0) ∧ WrL wy n 0 129 ∧ ∀ (w1 : World), PutB wy n 0 ([Value.bool x] ++ arrBo f 128 0) w1 →
          ∃ (x : Bool) (f : Nat → Bool), AtL w1 n 0 ([Value.bool x] ++ arrBo f 128 0) ∧ (K0 w w1 ∧ ((clsN t = 0 ∧ ∃ b h, Ending.returned (.tuple #[.agg ([Value.bool x] ++ arrBo f 128 0).toArray, .int .i64 (IntKind.i64.wrap (((k + fr + j : Nat) : Int) + 1))]) = .returned (.tuple #[.agg (reL b h).toArray, .int .i64 (-1)])) ∨
            (clsN t ≠ 0 ∧ ∃ h, Ending.returned (.tuple #[.agg ([Value.bool x] ++ arrBo f 128 0).toArray, .int .i64 (IntKind.i64.wrap (((k + fr + j : Nat) : Int) + 1))]) = .returned (.tuple #[.agg (reL false h).toArray, .int .i64 (k + clsN t : Nat)]) ∧ RelE (.cls (clsS t)) ⟨false, h⟩))) := fun wy g hg h1 h2 hky => by
      refine ⟨false, g, h1.at_, h2.wrl, fun wz hp => ⟨false, g, (h2.full hp).at_, hky.fresh hp.kp (fun i hi e => by omega), .inr ⟨by omega, g, ?_, rfl, fun _ c hc => ?_, fun c h0 h1 hh => ?_⟩⟩⟩
      · rw [wr64 (by omega) (by omega), hcn, show ((k + fr + j : Nat) : Int) + 1 = ((k + (fr + j + 1) : Nat) : Int) by omega]
        rfl
      · show hasB (clsS t) c = g c
        rw [hcs, hasB_filter _ c (by omega) (by omega), hg c hc]
        congr 3
        rw [show ((c : Int).toNat.toUInt8.toNat : Int) = (c : Int) by rw [Int.toNat_natCast, UInt8.toNat_ofNat']; omega]
      · have hh : hasB (clsS t) c = true := hh
        rw [hcs, hasB_filter _ c h0 h1] at hh
        simp only [Bool.and_eq_true] at hh
        exact hh.1
    refine ⟨fun vs wy => ∃ g : Nat → Bool, vs = [] ∧ (∀ c : Nat, c < 128 → g c = (charB c && !(p c == negB t))) ∧ SetB wy n1 false g ∧ SetB wy n false (fun _ => false) ∧ K0 w wy, ?_, fun wy ⟨g, _, h1, h2, h3, h4⟩ => fin wy g h1 h2 h3 h4⟩
    refine bsp_intro (fun hng => ?_) (fun hng => ⟨f, rfl, fun c hc => ?_, hb, hb0, hkx⟩)
    · rw [hng]
      refine ⟨fun vs wy => ∃ m : Nat, vs = [.int .i64 m] ∧ m ≤ 128 ∧ SetB wy n1 false (fun d => if d < m then charB d && !f d else f d) ∧ SetB wy n false (fun _ => false) ∧ K0 w wy, fun vs _ => (match vs with | .int _ x :: _ => 128 - x.toNat | _ => 0),
        ⟨0, rfl, by omega, hb.congr (fun d _ => by simp), hb0, hkx⟩, ?_⟩
      rintro x wy ⟨m, hv, hm, hby, hby0, hky⟩
      have hv : x = (m : Int) := by simpa using hv
      subst hv
      refine bsp_intro (fun hlt => ?_) (fun hge => ?_)
      · have hlt : m < 128 := by simp at hlt; omega
        have eu : IntKind.u8.wrap (m : Int) = (m : Int) := IntWalk.u8_in m ⟨by omega, by omega⟩
        rw [eu, Int.toNat_natCast]
        refine ⟨gimp_intro fun _ => ⟨by omega, by omega⟩, f m, gimp_intro fun _ => ?_, ⟨by omega, by omega⟩, hby.wr hlt, fun wz hp => ⟨⟨m + 1, ?_, by omega, (hby.put hp).congr (fun d _ => ?_), hby0.kp hp.kp (fun e => hne e), hky.fresh hp.kp (fun i hi e => by omega)⟩, ?_⟩⟩
        · have := hby.cell hlt
          rw [this]
          simp
        · rw [wr64 (by omega) (by omega)]; rfl
        · show (if d = m then (charB m && !f m) else (if d < m then charB d && !f d else f d)) = (if d < m + 1 then charB d && !f d else f d)
          by_cases e : d = m
          · subst e; simp
          · rw [if_neg e]
            by_cases e2 : d < m
            · rw [if_pos e2, if_pos (by omega)]
            · rw [if_neg e2, if_neg (by omega)]
        · rw [wr64 (by omega) (by omega)]
          simp only
          omega
      · have hge : ¬ m < 128 := by simp at hge; omega
        refine ⟨_, rfl, fun c hc => ?_, hby, hby0, hky⟩
        show (if c < m then charB c && !f c else f c) = _
        rw [if_pos (by omega), hfp c hc]
        simp
    · rw [hng, hfp c hc]
      cases hp : p c with
      | false => simp
      | true => rw [hpc c hp]; simp

end Go.Proofs.YtmjanmffnblcoaaGreatDoor

/- The formulas of functions by the symbolic evaluator, and that each gives the call's contract. Written by a program (gen.py). No condition. -/
namespace Go.Proofs.YtmjanmffnblcoaaGreatDoor
set_option maxRecDepth 100000
set_option linter.unusedVariables false

def VC_rcompile (s : ByteArray) (w : World) (R : Ending → World → Prop) : Prop :=
 ∀ (n : Nat) (w1 : World),
 NewB w (Obj.cells #[Value.string (ByteArray.mk #[]), Value.slice none 0 0] 90) n w1 →
 bsp (s.toList == [])
 (WrL w1 n 0 2 ∧
 ∀ (w1_1 : World),
 PutB w1 n 0 [Value.string (ByteArray.mk #[]), Value.slice none 0 0] w1_1 →
 ∃ (x : ByteArray),
 ∃ (p : Option Addr),
 ∃ (n_1 : Nat),
 ∃ (c : Nat),
 AtL w1_1 n 0 [Value.string x, Value.slice p n_1 c] ∧
 R
 (Ending.returned
 (Value.tuple
 #[Value.agg #[Value.string x, Value.slice p n_1 c], Value.int IntKind.i64 0, Value.int IntKind.i64 4]))
 w1_1)
 (bsp (decide ((↑s.size : Int) > 80))
 (WrL w1 n 0 2 ∧
 ∀ (w1_1 : World),
 PutB w1 n 0 [Value.string (ByteArray.mk #[]), Value.slice none 0 0] w1_1 →
 ∃ (x : ByteArray),
 ∃ (p : Option Addr),
 ∃ (n_1 : Nat),
 ∃ (c : Nat),
 AtL w1_1 n 0 [Value.string x, Value.slice p n_1 c] ∧
 R
 (Ending.returned
 (Value.tuple
 #[Value.agg #[Value.string x, Value.slice p n_1 c], Value.int IntKind.i64 80, Value.int IntKind.i64 5]))
 w1_1)
 (∀ (n_1 : Nat) (w1_1 : World),
 NewB w1 (Obj.cells #[Value.string (ByteArray.mk #[]), Value.slice none 0 0] 90) n_1 w1_1 →
 WrL w1_1 n_1 0 2 ∧
 ∀ (w1 : World),
 PutB w1_1 n_1 0 [Value.string s, Value.slice none 0 0] w1 →
 ∃ (I : List Value → World → Prop),
 ∃ (m : List Value → World → Nat),
 I [Value.int IntKind.i64 0] w1 ∧
 ∀ (x : Int) (w' : World),
 I [Value.int IntKind.i64 x] w' →
 bsp (decide (x < (↑s.size : Int)))
 (∀ (n_2 : Nat) (w1 : World),
 NewB w'
 (Obj.cells
 #[Value.bool false, Value.bool false, Value.bool false, Value.bool false, Value.bool false,
 Value.bool false, Value.bool false, Value.bool false, Value.bool false, Value.bool false,
 Value.bool false, Value.bool false, Value.bool false, Value.bool false, Value.bool false,
 Value.bool false, Value.bool false, Value.bool false, Value.bool false, Value.bool false,
 Value.bool false, Value.bool false, Value.bool false, Value.bool false, Value.bool false,
 Value.bool false, Value.bool false, Value.bool false, Value.bool false, Value.bool false,
 Value.bool false, Value.bool false, Value.bool false, Value.bool false, Value.bool false,
 Value.bool false, Value.bool false, Value.bool false, Value.bool false, Value.bool false,
 Value.bool false, Value.bool false, Value.bool false, Value.bool false, Value.bool false,
 Value.bool false, Value.bool false, Value.bool false, Value.bool false, Value.bool false,
 Value.bool false, Value.bool false, Value.bool false, Value.bool false, Value.bool false,
 Value.bool false, Value.bool false, Value.bool false, Value.bool false, Value.bool false,
 Value.bool false, Value.bool false, Value.bool false, Value.bool false, Value.bool false,
 Value.bool false, Value.bool false, Value.bool false, Value.bool false, Value.bool false,
 Value.bool false, Value.bool false, Value.bool false, Value.bool false, Value.bool false,
 Value.bool false, Value.bool false, Value.bool false, Value.bool false, Value.bool false,
 Value.bool false, Value.bool false, Value.bool false, Value.bool false, Value.bool false,
 Value.bool false, Value.bool false, Value.bool false, Value.bool false, Value.bool false,
 Value.bool false, Value.bool false, Value.bool false, Value.bool false, Value.bool false,
 Value.bool false, Value.bool false, Value.bool false, Value.bool false, Value.bool false,
 Value.bool false, Value.bool false, Value.bool false, Value.bool false, Value.bool false,
 Value.bool false, Value.bool false, Value.bool false, Value.bool false, Value.bool false,
 Value.bool false, Value.bool false, Value.bool false, Value.bool false, Value.bool false,
 Value.bool false, Value.bool false, Value.bool false, Value.bool false, Value.bool false,
 Value.bool false, Value.bool false, Value.bool false, Value.bool false, Value.bool false,
 Value.bool false, Value.bool false, Value.bool false, Value.bool false]
 120)
 n_2 w1 →
 ∃ (J : List Value → World → Prop),
 ((0 ≤ x ∧ x < (↑s.size : Int)) ∧
 bsp (at8 s x.toNat == 42)
 (((∃ (u : Value), w1.cell? (Addr.mk n_2 0 none) = some u) ∧
 w1.frozen? (Addr.mk n_2 0 none) = false) ∧
 ∀ (w1_2 : World), PutB w1 n_2 0 [Value.bool true] w1_2 → J [Value.int IntKind.i64 x] w1_2)
 ((0 ≤ x ∧ x < (↑s.size : Int)) ∧
 bsp (at8 s x.toNat == 63)
 (∃ (I : List Value → World → Prop),
 ∃ (m : List Value → World → Nat),
 I [Value.int IntKind.i64 0] w1 ∧
 ∀ (x_1 : Int) (w' : World),
 I [Value.int IntKind.i64 x_1] w' →
 bsp (decide (x_1 < 128))
 ((0 ≤ x_1 ∧ x_1 < (↑128 : Int)) ∧
 ((∃ (u : Value), w'.cell? (Addr.mk n_2 (0 + 1 + x_1.toNat) none) = some u) ∧
 w'.frozen? (Addr.mk n_2 (0 + 1 + x_1.toNat) none) = false) ∧
 ∀ (w1 : World),
 PutB w' n_2 (0 + 1 + x_1.toNat) [Value.bool (charB (IntKind.u8.wrap x_1))] w1 →
 I [Value.int IntKind.i64 (IntKind.i64.wrap (x_1 + 1))] w1 ∧
 m [Value.int IntKind.i64 (IntKind.i64.wrap (x_1 + 1))] w1 <
 m [Value.int IntKind.i64 x_1] w')
 (J [Value.int IntKind.i64 x] w'))
 ((0 ≤ x ∧ x < (↑s.size : Int)) ∧
 bsp (at8 s x.toNat == 91)
 (CallsS Tryz.prog 59 #[Value.string s, Value.int IntKind.i64 x] w1
 fun (e : Ending) (w'_1 : World) =>
 ∃ (x_1 : Bool),
 ∃ (f : Nat → Bool),
 ∃ (x_2 : Int),
 e =
 Ending.returned
 (Value.tuple
 #[Value.agg
 ([Value.bool x_1] ++ arrBo f 128 0).toArray,
 Value.int IntKind.i64 x_2]) ∧
 ∀ (n_3 : Nat) (w1 : World),
 NewB w'_1
 (Obj.cells
 #[Value.bool false, Value.bool false, Value.bool false, Value.bool false,
 Value.bool false, Value.bool false, Value.bool false, Value.bool false,
 Value.bool false, Value.bool false, Value.bool false, Value.bool false,
 Value.bool false, Value.bool false, Value.bool false, Value.bool false,
 Value.bool false, Value.bool false, Value.bool false, Value.bool false,
 Value.bool false, Value.bool false, Value.bool false, Value.bool false,
 Value.bool false, Value.bool false, Value.bool false, Value.bool false,
 Value.bool false, Value.bool false, Value.bool false, Value.bool false,
 Value.bool false, Value.bool false, Value.bool false, Value.bool false,
 Value.bool false, Value.bool false, Value.bool false, Value.bool false,
 Value.bool false, Value.bool false, Value.bool false, Value.bool false,
 Value.bool false, Value.bool false, Value.bool false, Value.bool false,
 Value.bool false, Value.bool false, Value.bool false, Value.bool false,
 Value.bool false, Value.bool false, Value.bool false, Value.bool false,
 Value.bool false, Value.bool false, Value.bool false, Value.bool false,
 Value.bool false, Value.bool false, Value.bool false, Value.bool false,
 Value.bool false, Value.bool false, Value.bool false, Value.bool false,
 Value.bool false, Value.bool false, Value.bool false, Value.bool false,
 Value.bool false, Value.bool false, Value.bool false, Value.bool false,
 Value.bool false, Value.bool false, Value.bool false, Value.bool false,
 Value.bool false, Value.bool false, Value.bool false, Value.bool false,
 Value.bool false, Value.bool false, Value.bool false, Value.bool false,
 Value.bool false, Value.bool false, Value.bool false, Value.bool false,
 Value.bool false, Value.bool false, Value.bool false, Value.bool false,
 Value.bool false, Value.bool false, Value.bool false, Value.bool false,
 Value.bool false, Value.bool false, Value.bool false, Value.bool false,
 Value.bool false, Value.bool false, Value.bool false, Value.bool false,
 Value.bool false, Value.bool false, Value.bool false, Value.bool false,
 Value.bool false, Value.bool false, Value.bool false, Value.bool false,
 Value.bool false, Value.bool false, Value.bool false, Value.bool false,
 Value.bool false, Value.bool false, Value.bool false, Value.bool false,
 Value.bool false, Value.bool false, Value.bool false, Value.bool false,
 Value.bool false]
 120)
 n_3 w1 →
 WrL w1 n_3 0 129 ∧
 ∀ (w1_2 : World),
 PutB w1 n_3 0
 ([Value.bool x_1] ++ arrBo f 128 0)
 w1_2 →
 bsp (decide (x_2 < 0))
 (WrL w1_2 n 0 2 ∧
 ∀ (w1 : World),
 PutB w1_2 n 0 [Value.string (ByteArray.mk #[]), Value.slice none 0 0] w1 →
 ∃ (x_3 : ByteArray),
 ∃ (p : Option Addr),
 ∃ (n_4 : Nat),
 ∃ (c : Nat),
 AtL w1 n 0 [Value.string x_3, Value.slice p n_4 c] ∧
 R
 (Ending.returned
 (Value.tuple
 #[Value.agg #[Value.string x_3, Value.slice p n_4 c],
 Value.int IntKind.i64 x, Value.int IntKind.i64 3]))
 w1)
 (∃ (p : Option Addr),
 ∃ (n : Nat),
 ∃ (c : Nat),
 w1_2.cell? (Addr.mk n_1 (0 + 1) none) = some (Value.slice p n c) ∧
 ∃ (x_3 : Bool),
 ∃ (f : Nat → Bool),
 AtL w1_2 n_3 0
 ([Value.bool x_3] ++ arrBo f 128 0) ∧
 ∀ (n_4 : Nat) (w1 : World),
 NewB w1_2
 (Obj.cells
 ([Value.bool x_3] ++ arrBo f 128 0).toArray
 120)
 n_4 w1 →
 ∃ (base : Nat),
 ∃ (xs : List Value),
 ∃ (news : List Value),
 w1.ownsRow base 120 129 (Value.slice p n c) n xs ∧
 news.length = 129 ∧
 SrcP w1 (some (Addr.mk n_4 0 none)) news ∧
 n + 1 ≤ 9223372036854775807 ∧
 (n + 1) * 129 ≤ 140737488355328 ∧
 base ≤ w1.heap.size ∧
 ∀ (p' : Option Addr) (c' : Nat) (w'_2 : World),
 w'_2.ownsRow base 120 129 (Value.slice p' (n + 1) c') (n + 1)
 (xs ++ news) →
 w1.grownBy w'_2 (Value.slice p n c).ownBlock →
 (n + 1 ≤ c → p' = p ∧ c' = c) →
 ((∃ (u : Value),
 w'_2.cell? (Addr.mk n_1 (0 + 1) none) = some u) ∧
 w'_2.frozen? (Addr.mk n_1 (0 + 1) none) = false) ∧
 ∀ (w1 : World),
 PutB w'_2 n_1 (0 + 1) [Value.slice p' (n + 1) c'] w1 →
 I [Value.int IntKind.i64 x_2] w1 ∧
 m [Value.int IntKind.i64 x_2] w1 <
 m [Value.int IntKind.i64 x] w'))
 ((0 ≤ x ∧ x < (↑s.size : Int)) ∧
 bsp (charB (at8 s x.toNat))
 ((0 ≤ x ∧ x < (↑s.size : Int)) ∧
 (0 ≤ at8 s x.toNat ∧ at8 s x.toNat < (↑128 : Int)) ∧
 ((∃ (u : Value), w1.cell? (Addr.mk n_2 (0 + 1 + (at8 s x.toNat).toNat) none) = some u) ∧
 w1.frozen? (Addr.mk n_2 (0 + 1 + (at8 s x.toNat).toNat) none) = false) ∧
 ∀ (w1_2 : World),
 PutB w1 n_2 (0 + 1 + (at8 s x.toNat).toNat) [Value.bool true] w1_2 →
 J [Value.int IntKind.i64 x] w1_2)
 (WrL w1 n 0 2 ∧
 ∀ (w1_2 : World),
 PutB w1 n 0 [Value.string (ByteArray.mk #[]), Value.slice none 0 0] w1_2 →
 ∃ (x_1 : ByteArray),
 ∃ (p : Option Addr),
 ∃ (n_3 : Nat),
 ∃ (c : Nat),
 AtL w1_2 n 0 [Value.string x_1, Value.slice p n_3 c] ∧
 R
 (Ending.returned
 (Value.tuple
 #[Value.agg #[Value.string x_1, Value.slice p n_3 c], Value.int IntKind.i64 x,
 Value.int IntKind.i64 6]))
 w1_2))))) ∧
 ∀ (x_1 : Int) (w'_1 : World),
 J [Value.int IntKind.i64 x_1] w'_1 →
 ∃ (p : Option Addr),
 ∃ (n : Nat),
 ∃ (c : Nat),
 w'_1.cell? (Addr.mk n_1 (0 + 1) none) = some (Value.slice p n c) ∧
 ∃ (x_2 : Bool),
 ∃ (f : Nat → Bool),
 AtL w'_1 n_2 0
 ([Value.bool x_2] ++ arrBo f 128 0) ∧
 ∀ (n_3 : Nat) (w1 : World),
 NewB w'_1
 (Obj.cells
 ([Value.bool x_2] ++ arrBo f 128 0).toArray
 120)
 n_3 w1 →
 ∃ (base : Nat),
 ∃ (xs : List Value),
 ∃ (news : List Value),
 w1.ownsRow base 120 129 (Value.slice p n c) n xs ∧
 news.length = 129 ∧
 SrcP w1 (some (Addr.mk n_3 0 none)) news ∧
 n + 1 ≤ 9223372036854775807 ∧
 (n + 1) * 129 ≤ 140737488355328 ∧
 base ≤ w1.heap.size ∧
 ∀ (p' : Option Addr) (c' : Nat) (w'_2 : World),
 w'_2.ownsRow base 120 129 (Value.slice p' (n + 1) c') (n + 1) (xs ++ news) →
 w1.grownBy w'_2 (Value.slice p n c).ownBlock →
 (n + 1 ≤ c → p' = p ∧ c' = c) →
 ((∃ (u : Value), w'_2.cell? (Addr.mk n_1 (0 + 1) none) = some u) ∧
 w'_2.frozen? (Addr.mk n_1 (0 + 1) none) = false) ∧
 ∀ (w1 : World),
 PutB w'_2 n_1 (0 + 1) [Value.slice p' (n + 1) c'] w1 →
 I [Value.int IntKind.i64 (IntKind.i64.wrap (x_1 + 1))] w1 ∧
 m [Value.int IntKind.i64 (IntKind.i64.wrap (x_1 + 1))] w1 <
 m [Value.int IntKind.i64 x] w')
 (∃ (x : ByteArray),
 ∃ (p : Option Addr),
 ∃ (n_2 : Nat),
 ∃ (c : Nat),
 AtL w' n_1 0 [Value.string x, Value.slice p n_2 c] ∧
 WrL w' n 0 2 ∧
 ∀ (w1 : World),
 PutB w' n 0 [Value.string x, Value.slice p n_2 c] w1 →
 ∃ (x : ByteArray),
 ∃ (p : Option Addr),
 ∃ (n_3 : Nat),
 ∃ (c : Nat),
 AtL w1 n 0 [Value.string x, Value.slice p n_3 c] ∧
 R
 (Ending.returned
 (Value.tuple
 #[Value.agg #[Value.string x, Value.slice p n_3 c], Value.int IntKind.i64 0,
 Value.int IntKind.i64 0]))
 w1)))
theorem vc_rcompile (s : ByteArray) (w : World) (R : Ending → World → Prop) (h : VC_rcompile s w R) : Calls Tryz.prog 34 ([Value.string
    s] : List Value).toArray w R := by
  have e : execR { P := Tryz.prog, loops := [(7, [(6, Ck.int IntKind.i64)]), (14, [(8, Ck.int IntKind.i64)])], pur := pur1, tails := [], joins := [(25, [(6, Ck.int IntKind.i64)])], boxes := [] } Tryz.f34.results.toList R (Tryz.f34.body.getD .skip) (initF [Value.string
    s] (Tryz.f34.ntmps - ([Value.string s] : List Value).length)) w = VC_rcompile s w R := by kernel_rfl
  have hb : Tryz.f34.body = some (Tryz.f34.body.getD .skip) := by kernel_rfl
  exact calls_of_exec' (P := Tryz.prog) (fn := Tryz.f34) (c := Tryz.f34.body.getD .skip) (args := [Value.string
    s]) (w := w) (R := R) pur1_ok Tryz.func34 hb e h

end Go.Proofs.YtmjanmffnblcoaaGreatDoor

/- The contract of the reference's Compile: it agrees with the program's. No condition. -/
namespace Go.Proofs.YtmjanmffnblcoaaGreatDoor
open Go.RowKit

/-- The cells of elements of the reference. -/
def rows (rs : List RE) : List Value := rs.flatMap fun r => reL r.star r.set
theorem rows_length : ∀ rs : List RE, (rows rs).length = rs.length * 129
  | [] => rfl
  | r :: rs => by
    have := rows_length rs
    unfold rows at this ⊢
    rw [List.flatMap_cons, List.length_append, reL_length, this, List.length_cons]
    omega
theorem rows_snoc (rs : List RE) (r : RE) : rows (rs ++ [r]) = rows rs ++ reL r.star r.set := by simp [rows]
/-- A pattern that is being made. -/
def RSt (w : World) (n : Nat) (s : ByteArray) (rs : List RE) : Prop :=
  ∃ (p : Option Addr) (c : Nat), w.heap[n]? = some (.cells #[.string s, .slice p rs.length c] 90 (0, 0)) ∧ w.ownsRow (n + 1) 120 129 (.slice p rs.length c) rs.length (rows rs)
theorem RSt.kp {w w' : World} {n : Nat} {s : ByteArray} {rs : List RE} (h : RSt w n s rs) (hk : K0 w w') : RSt w' n s rs := by
  obtain ⟨p, c, h1, h2⟩ := h
  exact ⟨p, c, hk.blk h1 (fun h => h), owns_kp h2 hk (fun _ _ h => h)⟩
def PB (w : World) (n : Nat) : Prop := ∃ v u, w.heap[n]? = some (.cells #[v, u] 90 (0, 0))
theorem PB.kp {M : Nat → Prop} {w w' : World} {n : Nat} (h : PB w n) (hk : Kp M w w') (hm : ¬ M n) : PB w' n := by
  obtain ⟨v, u, h⟩ := h; exact ⟨v, u, hk.blk h hm⟩
theorem PB.wr {w : World} {n : Nat} (h : PB w n) : WrL w n 0 2 := by obtain ⟨v, u, h⟩ := h; exact WrL_block h (by simp)
theorem PB.put {w w1 : World} {n : Nat} (h : PB w n) {v u : Value} (hp : PutB w n 0 [v, u] w1) : w1.heap[n]? = some (.cells #[v, u] 90 (0, 0)) := by
  obtain ⟨v', u', h⟩ := h; exact hp.full h rfl
theorem SetB.star {w w1 : World} {n : Nat} {b : Bool} {f : Nat → Bool} (h : SetB w n b f) {v : Bool} (hp : PutB w n 0 [.bool v] w1) : SetB w1 n v f := by
  have := hp.block h
  unfold SetB
  rw [this]
  congr 2
theorem reL_one (b : Bool) (f : Nat → Bool) : ∀ u ∈ reL b f, u.oneCell' = true := by
  intro u hu
  unfold reL at hu
  rcases List.mem_append.1 hu with h | h
  · simp at h; subst h; rfl
  · obtain ⟨j, hj, e⟩ := List.getElem_of_mem h
    have hj' : j < 128 := by rw [arrBo_length] at hj; exact hj
    have := arrBo_get f 128 0 j hj'
    rw [List.getElem?_eq_getElem hj] at this
    simp at this
    rw [← e, this]; rfl
theorem extract1 {s : ByteArray} {k : Nat} (h : k < s.size) : s.extract k (k + 1) = b1 (at8 s k) := by
  have hsz : (s.extract k (k + 1)).size = 1 := by rw [ByteArray.size_extract]; omega
  have hb := at8_byte (s := s.extract k (k + 1)) (k := 0) (by omega)
  rw [at8_extract s k (k + 1) 0 (by omega) (by omega)] at hb
  have hl : (s.extract k (k + 1)).data.toList.length = 1 := by rw [Array.length_toList]; exact hsz
  have : (s.extract k (k + 1)).data.toList = [(at8 s k).toNat.toUInt8] := by
    match hm : (s.extract k (k + 1)).data.toList, hl with
    | [a], _ => rw [hm] at hb; simp at hb; rw [hb]
  unfold b1
  cases hx : s.extract k (k + 1) with
  | mk d =>
    rw [hx] at this
    congr 1
    apply Array.toList_inj.1
    simpa using this
theorem rel_star : RelE .star ⟨true, fun _ => false⟩ := ⟨rfl, (fun h => by cases h), fun c h0 h1 h => by rw [← name_char c h0 h1]; exact h⟩
theorem rel_one (f : Nat → Bool) (hf : ∀ c : Nat, c < 128 → f c = charB c) : RelE .one ⟨false, f⟩ := ⟨rfl, fun _ c hc => by
  show hasB nameBytes c = f c
  rw [name_char c (by omega) (by omega), hf c hc], fun c h0 h1 h => by rw [← name_char c h0 h1]; exact h⟩
theorem rel_lit {s : ByteArray} {k : Nat} (h : k < s.size) (hc : charB (at8 s k) = true) (f : Nat → Bool) (hf : ∀ c : Nat, c < 128 → f c = decide ((c : Int) = at8 s k)) : RelE (.lit (s.extract k (k + 1))) ⟨false, f⟩ := by
  have hh : ∀ c : Int, 0 ≤ c → c ≤ 255 → hasB (El.lit (s.extract k (k + 1))).chars c = decide (c = at8 s k) := fun c h0 h1 => by
    show hasB (s.extract k (k + 1)) c = _
    rw [extract1 h]
    have := hasB_b1 (a := ⟨#[]⟩) (c := at8 s k) (d := c) (at8_bd s k) ⟨h0, h1⟩
    have e : (⟨#[]⟩ : ByteArray) ++ b1 (at8 s k) = b1 (at8 s k) := ByteArray.empty_append
    rw [e] at this
    rw [this]
    have : hasB ⟨#[]⟩ c = false := rfl
    rw [this, Bool.false_or]
  refine ⟨rfl, fun _ c hc => ?_, fun c h0 h1 hx => ?_⟩
  · show _ = f c
    rw [hh c (by omega) (by omega), hf c hc]
  · rw [hh c h0 h1] at hx
    have : c = at8 s k := by simpa using hx
    rw [this]; exact hc

/-- What the reference's Compile yields. -/
def RcPost (s : ByteArray) (w : World) (e : Ending) (w' : World) : Prop := K0 w w' ∧
    match compileR s with
    | .inl els => ∃ p c rs, e = .returned (.tuple #[.agg #[.string s, .slice p rs.length c], .int .i64 0, .int .i64 0]) ∧ w'.ownsRow w.heap.size 120 129 (.slice p rs.length c) rs.length (rows rs) ∧ RelEs els rs
    | .inr (o, x) => e = .returned (.tuple #[.agg #[.string ⟨#[]⟩, .slice none 0 0], .int .i64 o, .int .i64 x])
set_option maxHeartbeats 1000000 in
set_option maxRecDepth 100000 in
theorem rcompile_any (s : ByteArray) (w : World) : Calls Tryz.prog 34 #[.string s] w (RcPost s w) := by
  refine vc_rcompile s w _ ?_
  intro n w1 hn
  have p1 : PB w1 n := ⟨_, _, hn.block⟩
  have gn : w.heap.size ≤ n := hn.ge
  have k1 : K0 w w1 := hn.kp _
  have fail : ∀ (wx : World) (o : Int) (x : Int), PB wx n → K0 w wx → (∀ w', K0 w w' → RcPost s w (.returned (.tuple #[.agg #[.string ⟨#[]⟩, .slice none 0 0], .int .i64 o, .int .i64 x])) w') →
      WrL wx n 0 2 ∧ ∀ (w1 : World), PutB wx n 0 [.string ⟨#[]⟩, .slice none 0 0] w1 → ∃ (x_1 : ByteArray) (p : Option Addr) (n_1 c : Nat), AtL w1 n 0 [.string x_1, .slice p n_1 c] ∧ RcPost s w (.returned (.tuple #[.agg #[.string x_1, .slice p n_1 c], .int .i64 o, .int .i64 x])) w1 := fun wx o x hpb hkx hfin =>
    ⟨hpb.wr, fun wy hp => ⟨_, _, _, _, AtL_block (hpb.put hp) rfl, hfin wy (hkx.fresh hp.kp (fun i hi e => by omega))⟩⟩
  rw [toList_nil]
  refine bsp_intro (fun h0 => ?_) (fun h0 => bsp_intro (fun h1 => ?_) (fun h1 => ?_))
  · have h0 : s.size = 0 := by simpa using h0
    exact fail w1 0 4 p1 k1 (fun w' hk => ⟨hk, by simp only [compileR, h0, if_true]; rfl⟩)
  · have h0 : ¬ s.size = 0 := by simpa using h0
    have h1 : 80 < s.size := by simp at h1; omega
    exact fail w1 80 5 p1 k1 (fun w' hk => ⟨hk, by simp only [compileR, h0, h1, if_true, if_false]; rfl⟩)
  have h0 : ¬ s.size = 0 := by simpa using h0
  have h1 : ¬ 80 < s.size := by simp at h1; omega
  have hR : compileR s = compS s s.size 0 [] := by simp only [compileR, h0, h1, if_false]
  intro n1 w2 hn1
  have hn1' : n < n1 := by have := hn.size; have := hn1.hn; omega
  refine ⟨WrL_block hn1.block (by simp), fun w3 hp3 => ?_⟩
  have k13 : K0 w1 w3 := (hn1.kp (fun _ => False)).fresh hp3.kp (fun i hi e => by have := hn1.hn; omega)
  have st3 : RSt w3 n1 s [] := ⟨none, 0, hp3.full hn1.block rfl, World.ownsRow_nil _ _ _ _⟩
  -- one element more
  have app : ∀ (b : Bool) (f : Nat → Bool) (rs : List RE) (wa : World), RSt wa n1 s rs → PB wa n → K0 w wa → rs.length ≤ 80 →
      ∃ (p : Option Addr) (n_3 c : Nat), wa.cell? (Addr.mk n1 (0 + 1) none) = some (.slice p n_3 c) ∧ ∀ (n_2 : Nat), SetB wa n_2 b f → ∃ (x_2 : Bool) (f' : Nat → Bool), AtL wa n_2 0 ([Value.bool x_2] ++ arrBo f' 128 0) ∧ ∀ (n_4 : Nat) (wb : World), NewB wa (.cells ([Value.bool x_2] ++ arrBo f' 128 0).toArray 120) n_4 wb → ∀ (Y : World → Prop), (∀ w2, RSt w2 n1 s (rs ++ [⟨b, f⟩]) → PB w2 n → K0 w w2 → Y w2) →
        ∃ (base : Nat) (xs news : List Value), wb.ownsRow base 120 129 (.slice p n_3 c) n_3 xs ∧ news.length = 129 ∧ SrcP wb (some (Addr.mk n_4 0 none)) news ∧ n_3 + 1 ≤ 9223372036854775807 ∧ (n_3 + 1) * 129 ≤ 140737488355328 ∧ base ≤ wb.heap.size ∧
          ∀ (p' : Option Addr) (c' : Nat) (w' : World), w'.ownsRow base 120 129 (.slice p' (n_3 + 1) c') (n_3 + 1) (xs ++ news) → wb.grownBy w' (Value.slice p n_3 c).ownBlock → (n_3 + 1 ≤ c → p' = p ∧ c' = c) →
            ((∃ (u : Value), w'.cell? (Addr.mk n1 (0 + 1) none) = some u) ∧ w'.frozen? (Addr.mk n1 (0 + 1) none) = false) ∧ ∀ (w1 : World), PutB w' n1 (0 + 1) [Value.slice p' (n_3 + 1) c'] w1 → Y w1 := by
    intro b f rs wa ⟨p, c, hb, ho⟩ hpb hwa hlen
    refine ⟨p, rs.length, c, cell_at hb rfl, fun n_2 hs => ⟨b, f, hs.at_, fun n_4 wb hn4 Y hY => ?_⟩⟩
    refine app1 ho (block_lt hb) hn4 (by simp [arrBo_length]) (fun u hu => reL_one b f u hu) (by omega) (by omega) (fun p' c' w' ho' hk' _ => ?_)
    have hne : ∀ k, (Value.slice p rs.length c).ownBlock = some k → ¬ n1 = k := fun k hk e => by have := own_ge ho hk; omega
    have hb' : w'.heap[n1]? = some (.cells #[.string s, .slice p rs.length c] 90 (0, 0)) := hk'.blk hb (fun e => hne _ e rfl)
    refine ⟨cell_wr hb' (by simp), fun w2 hp => hY w2 ⟨p', c', ?_, ?_⟩ ((hpb.kp hk' (fun e => by have := own_ge ho e; omega)).kp hp.kp (fun e => by omega)) ?_⟩
    · rw [List.length_append]; exact hp.block hb'
    · rw [rows_snoc, List.length_append]
      have : ([Value.bool b] ++ arrBo f 128 0).toArray.toList = reL b f := rfl
      rw [this] at ho'
      exact owns_kp ho' hp.kp (fun k hk e => by have := own_ge ho' hk; omega)
    · have := hwa.size
      exact (hwa.fresh hk' (fun i hi e => by have := own_ge ho e; omega)).fresh hp.kp (fun i hi e => by omega)
  refine ⟨fun vs w' => ∃ (k f : Nat) (acc : List El) (rs : List RE), vs = [.int .i64 k] ∧ k ≤ s.size ∧ s.size - k ≤ f ∧ acc.length ≤ k ∧ compS s f k acc = compS s s.size 0 [] ∧ RelEs acc rs ∧ RSt w' n1 s rs ∧ PB w' n ∧ K0 w w',
    fun vs _ => (match vs with | .int _ x :: _ => s.size - x.toNat | _ => 0), ⟨0, s.size, [], [], rfl, by omega, by omega, by simp, rfl, ⟨rfl, fun j e r h _ => by simp at h⟩, st3, p1.kp k13 (fun h => h), k1.trans k13⟩, fun x w' ⟨k, f, acc, rs, hv, hk, hf, hacc, hS, hrel, hst, hpb, hw⟩ => ?_⟩
  have hv : x = (k : Int) := by simpa using hv
  subst hv
  have hrl : rs.length ≤ k := by rw [← hrel.len]; exact hacc
  refine bsp_intro (fun hlt => ?_) (fun hge => ?_)
  · have hlt : k < s.size := by simpa using hlt
    obtain ⟨f, rfl⟩ : ∃ g, f = g + 1 := ⟨f - 1, by omega⟩
    have e0 : (k : Int).toNat = k := by omega
    rw [e0]
    have hin : 0 ≤ (k : Int) ∧ (k : Int) < (s.size : Int) := by omega
    intro n2 w4 hn2
    have b4 : SetB w4 n2 false (fun _ => false) := setB_new (by kernel_rfl) hn2
    have g2 : w'.heap.size ≤ n2 := hn2.ge
    have k4 : K0 w' w4 := hn2.kp _
    refine ⟨fun vs wx => ∃ (b : Bool) (g : Nat → Bool) (el : El), vs = [.int .i64 (k : Int)] ∧ SetB wx n2 b g ∧ RelE el ⟨b, g⟩ ∧ compS s f (k + 1) (acc ++ [el]) = compS s s.size 0 [] ∧ K0 w' wx, ⟨hin, ?_⟩, fun x_1 wx ⟨b, g, el, hv, hs, hre, hcs, hkx⟩ => ?_⟩
    · refine bsp_intro (fun c1 => ⟨cell_wr b4 (by simp [reL]), fun w5 hp => ⟨true, fun _ => false, .star, rfl, b4.star hp, rel_star, ?_, k4.fresh hp.kp (fun i hi e => by omega)⟩⟩) (fun c1 => ⟨hin, bsp_intro (fun c2 => ?_) (fun c2 => ⟨hin, bsp_intro (fun c3 => ?_) (fun c3 => ⟨hin, bsp_intro (fun c4 => ?_) (fun c4 => ?_)⟩)⟩)⟩)
      · rw [← hS]
        have : (at8 s k == 63) = false := by
          have : at8 s k = 42 := by simpa using c1
          rw [this]; rfl
        simp [compS, hlt, this, c1]
      · refine ⟨fun vs wx => ∃ m : Nat, vs = [.int .i64 m] ∧ m ≤ 128 ∧ SetB wx n2 false (fun d => decide (d < m) && charB d) ∧ K0 w' wx, fun vs _ => (match vs with | .int _ x :: _ => 128 - x.toNat | _ => 0), ⟨0, rfl, by omega, b4.congr (fun d _ => by simp), k4⟩, ?_⟩
        rintro x wy ⟨m, hv, hm, hby, hky⟩
        have hv : x = (m : Int) := by simpa using hv
        subst hv
        refine bsp_intro (fun hlm => ?_) (fun hgm => ?_)
        · have hlm : m < 128 := by simp at hlm; omega
          have eu : IntKind.u8.wrap (m : Int) = (m : Int) := IntWalk.u8_in m ⟨by omega, by omega⟩
          rw [eu, Int.toNat_natCast]
          refine ⟨⟨by omega, by omega⟩, hby.wr hlm, fun wz hp => ⟨⟨m + 1, ?_, by omega, (hby.put hp).congr (fun d _ => ?_), hky.fresh hp.kp (fun i hi e => by omega)⟩, ?_⟩⟩
          · rw [wr64 (by omega) (by omega)]; rfl
          · show (if d = m then charB m else (decide (d < m) && charB d)) = (decide (d < m + 1) && charB d)
            by_cases e : d = m
            · subst e; simp
            · rw [if_neg e]
              have : decide (d < m) = decide (d < m + 1) := by rw [decide_eq_decide]; omega
              rw [this]
          · rw [wr64 (by omega) (by omega)]
            simp only
            omega
        · have hgm : ¬ m < 128 := by simp at hgm; omega
          refine ⟨false, _, .one, rfl, hby, rel_one _ (fun c hc => ?_), ?_, hky⟩
          · have : decide (c < m) = true := by simp; omega
            rw [this, Bool.true_and]
          · rw [← hS]
            simp [compS, hlt, c2]
      · have c3' : at8 s k = 91 := by simpa using c3
        refine ⟨(rclass_any s k w4 hlt c3' (by omega)).mono fun e w5 ⟨hk5, he⟩ => ?_⟩
        have hcs0 : compS s (f + 1) k acc = if clsN (s.extract k s.size) = 0 then .inr (k, 3) else compS s f (k + clsN (s.extract k s.size)) (acc ++ [.cls (clsS (s.extract k s.size))]) := by simp [compS, hlt, c1, c2, c3]
        have hxs : (s.extract k s.size).size = s.size - k := by rw [ByteArray.size_extract]; omega
        have hle := clsN_le (s.extract k s.size) (by omega)
        rcases he with ⟨h0, b, g, he⟩ | ⟨h0, g, he, hre⟩
        · refine ⟨b, g, _, he, fun n3 w6 hn3 => ?_⟩
          have b6 : SetB w6 n3 false (fun _ => false) := setB_new (by kernel_rfl) hn3
          refine ⟨b6.wrl, fun w7 hp7 => bsp_intro (fun _ => ?_) (fun h => absurd h (by decide))⟩
          have k7 : K0 w' w7 := ((k4.trans hk5).trans (hn3.kp _)).fresh hp7.kp (fun i hi e => by have := (k4.trans hk5).size; have := hn3.ge; omega)
          refine fail w7 k 3 (hpb.kp k7 (fun h => h)) (hw.trans k7) (fun w' hk => ⟨hk, ?_⟩)
          rw [hR, ← hS, hcs0, if_pos h0]
        · refine ⟨false, g, _, he, fun n3 w6 hn3 => ?_⟩
          have b6 : SetB w6 n3 false (fun _ => false) := setB_new (by kernel_rfl) hn3
          refine ⟨b6.wrl, fun w7 hp7 => bsp_intro (fun h => ?_) (fun _ => ?_)⟩
          · exfalso; simp at h; omega
          have k7 : K0 w' w7 := ((k4.trans hk5).trans (hn3.kp _)).fresh hp7.kp (fun i hi e => by have := (k4.trans hk5).size; have := hn3.ge; omega)
          have b7 : SetB w7 n3 false g := b6.full hp7
          rw [if_neg h0] at hcs0
          obtain ⟨p, n_3, c, q1, q2⟩ := app false g rs w7 (hst.kp k7) (hpb.kp k7 (fun h => h)) (hw.trans k7) (by omega)
          obtain ⟨x2, f2, q3, q4⟩ := q2 n3 b7
          refine ⟨p, n_3, c, q1, x2, f2, q3, fun n4 w8 hn4 => q4 n4 w8 hn4 _ (fun w9 r1 r2 r3 => ⟨⟨k + clsN (s.extract k s.size), f, _, _, rfl, by omega, by omega, ?_, hcs0.symm.trans hS, hrel.snoc hre, r1, r2, r3⟩, ?_⟩)⟩
          · simp; omega
          · simp only; omega
      · have hcb := charB_lt c4
        refine ⟨hin, ⟨hcb.1, hcb.2⟩, b4.wr (by omega), fun w5 hp => ⟨false, _, .lit (s.extract k (k + 1)), rfl, b4.put hp, rel_lit hlt c4 _ (fun c hc => ?_), ?_, k4.fresh hp.kp (fun i hi e => by omega)⟩⟩
        · show (if c = (at8 s k).toNat then true else false) = decide ((c : Int) = at8 s k)
          by_cases e : c = (at8 s k).toNat
          · rw [if_pos e]; simp; omega
          · rw [if_neg e]; simp; omega
        · rw [← hS]
          have : hasB nameBytes (at8 s k) = true := by rw [name_char _ hcb.1 (by omega)]; exact c4
          simp [compS, hlt, c1, c2, c3, this]
      · refine fail w4 k 6 (hpb.kp k4 (fun h => h)) (hw.trans k4) (fun w' hk => ⟨hk, ?_⟩)
        rw [hR, ← hS]
        have : hasB nameBytes (at8 s k) = false := by rw [name_char _ (at8_bd s k).1 (at8_bd s k).2]; exact c4
        simp only [compS, hlt, if_true, c1, c2, c3, this, Bool.false_eq_true, if_false]
    · have hv : x_1 = (k : Int) := by simpa using hv
      subst hv
      rw [wr64 (by omega) (by omega)]
      obtain ⟨p, n_3, c, q1, q2⟩ := app b g rs wx (hst.kp hkx) (hpb.kp hkx (fun h => h)) (hw.trans hkx) (by omega)
      obtain ⟨x2, f2, q3, q4⟩ := q2 n2 hs
      refine ⟨p, n_3, c, q1, x2, f2, q3, fun n4 w8 hn4 => q4 n4 w8 hn4 _ (fun w9 r1 r2 r3 => ⟨⟨k + 1, f, _, _, rfl, by omega, by omega, ?_, hcs, hrel.snoc hre, r1, r2, r3⟩, ?_⟩)⟩
      · simp; omega
      · simp only; omega
  · have hge : ¬ k < s.size := by simpa using hge
    have hc : compS s f k acc = .inl acc := by cases f <;> simp [compS, hge]
    obtain ⟨p, c, hb, ho⟩ := hst
    refine ⟨_, _, _, _, AtL_block hb rfl, hpb.wr, fun wy hp => ⟨_, _, _, _, AtL_block (hpb.put hp) rfl, hw.fresh hp.kp (fun i hi e => by omega), ?_⟩⟩
    rw [hR, ← hS, hc]
    refine ⟨p, c, rs, rfl, ?_, hrel⟩
    have ho' := owns_kp ho hp.kp (fun k hk e => by have := own_ge ho hk; omega)
    exact ⟨ho'.1, ho'.2.imp id fun ⟨g, cap, cur, a1, a2, a3⟩ => ⟨g, cap, cur, a1, by omega, a3⟩⟩

end Go.Proofs.YtmjanmffnblcoaaGreatDoor

/- The formulas of functions by the symbolic evaluator, and that each gives the call's contract. Written by a program (gen.py). No condition. -/
namespace Go.Proofs.YtmjanmffnblcoaaGreatDoor
set_option maxRecDepth 100000
set_option linter.unusedVariables false

def VC_xrule (s : ByteArray) (lo : Int) (hi : Int) (w : World) (R : Ending → World → Prop) : Prop :=
 ∀ (n : Nat) (W : World),
 Loc w.heap.size [Blk.mk n 33 [Value.string s, Value.int IntKind.i64 lo, Value.int IntKind.i64 hi] 2] w W →
 CallsS Tryz.prog 34 #[Value.string s] W fun (e : Ending) (w' : World) =>
 ∃ (x : ByteArray),
 ∃ (p : Option Addr),
 ∃ (n_1 : Nat),
 ∃ (c : Nat),
 ∃ (x_1 : Int),
 ∃ (x_2 : Int),
 e =
 Ending.returned
 (Value.tuple
 #[Value.agg #[Value.string x, Value.slice p n_1 c], Value.int IntKind.i64 x_1,
 Value.int IntKind.i64 x_2]) ∧
 KeptL [n] W w' ∧
 ∀ (n_2 : Nat),
 bsp (x_2 != 0)
 (∀ (W : World),
 Loc w.heap.size
 [Blk.mk n_2 90 [Value.string x, Value.slice p n_1 c] (wrM 2),
 Blk.mk n 33 [Value.string s, Value.int IntKind.i64 lo, Value.int IntKind.i64 hi] 0]
 w' W →
 R (Ending.returned (Value.int IntKind.i64 3)) W)
 (∃ (x_3 : Int),
 gimp (!decide (lo < 0))
 (∀ (W : World),
 Loc w.heap.size
 [Blk.mk n_2 90 [Value.string x, Value.slice p n_1 c] (wrM 2),
 Blk.mk n 33 [Value.string s, Value.int IntKind.i64 lo, Value.int IntKind.i64 hi] 0]
 w' W →
 W.cell? (Addr.mk n (0 + 1) none) = some (Value.int IntKind.i64 x_3)) ∧
 ∃ (x_4 : Int),
 gimp (!decide (lo < 0))
 (∀ (W : World),
 Loc w.heap.size
 [Blk.mk n_2 90 [Value.string x, Value.slice p n_1 c] (wrM 2),
 Blk.mk n 33 [Value.string s, Value.int IntKind.i64 lo, Value.int IntKind.i64 hi] 0]
 w' W →
 W.cell? (Addr.mk n (0 + 2) none) = some (Value.int IntKind.i64 x_4)) ∧
 ∃ (x_5 : Int),
 gimp (!(decide (lo < 0) || decide (x_3 > x_4)))
 (∀ (W : World),
 Loc w.heap.size
 [Blk.mk n_2 90 [Value.string x, Value.slice p n_1 c] (wrM 2),
 Blk.mk n 33 [Value.string s, Value.int IntKind.i64 lo, Value.int IntKind.i64 hi] 0]
 w' W →
 W.cell? (Addr.mk n (0 + 2) none) = some (Value.int IntKind.i64 x_5)) ∧
 bsp (decide (lo < 0) || decide (x_3 > x_4) || decide (x_5 > 36500))
 (∀ (W : World),
 Loc w.heap.size
 [Blk.mk n_2 90 [Value.string x, Value.slice p n_1 c] (wrM 2),
 Blk.mk n 33 [Value.string s, Value.int IntKind.i64 lo, Value.int IntKind.i64 hi] 0]
 w' W →
 R (Ending.returned (Value.int IntKind.i64 2)) W)
 (∀ (W : World),
 Loc w.heap.size
 [Blk.mk n_2 90 [Value.string x, Value.slice p n_1 c] (wrM 2),
 Blk.mk n 33 [Value.string s, Value.int IntKind.i64 lo, Value.int IntKind.i64 hi] 0]
 w' W →
 R (Ending.returned (Value.int IntKind.i64 0)) W))
theorem vc_xrule (s : ByteArray) (lo : Int) (hi : Int) (w : World) (R : Ending → World → Prop) (h : VC_xrule s lo hi w R) : Calls Tryz.prog 18 ([Value.agg
    #[Value.string s, Value.int IntKind.i64 lo, Value.int IntKind.i64 hi]] : List Value).toArray w R := by
  have e : execR2 { P := Tryz.prog, loops := [], pur := pur2, tails := [], joins := [], boxes := [] } Tryz.f18.results.toList R (Tryz.f18.body.getD .skip) (initF [Value.agg
    #[Value.string s, Value.int IntKind.i64 lo,
      Value.int IntKind.i64
        hi]] (Tryz.f18.ntmps - ([Value.agg
    #[Value.string s, Value.int IntKind.i64 lo,
      Value.int IntKind.i64 hi]] : List Value).length)) w = VC_xrule s lo hi w R := by kernel_rfl
  have hb : Tryz.f18.body = some (Tryz.f18.body.getD .skip) := by kernel_rfl
  exact calls_of_exec2' (P := Tryz.prog) (fn := Tryz.f18) (c := Tryz.f18.body.getD .skip) (args := [Value.agg
    #[Value.string s, Value.int IntKind.i64 lo, Value.int IntKind.i64 hi]]) (w := w) (R := R) pur2_ok Tryz.func18 hb e h

def VC_xcheck (p : Option Addr) (n : Nat) (c : Nat) (w : World) (R : Ending → World → Prop) : Prop :=
 bsp (decide ((↑n : Int) > 64)) (R (Ending.returned (Value.int IntKind.i64 9)) w)
 (∃ (I : List Value → World → Prop),
 ∃ (m : List Value → World → Nat),
 I [Value.int IntKind.i64 0] w ∧
 ∀ (x : Int) (w' : World),
 I [Value.int IntKind.i64 x] w' →
 bsp (decide (x < (↑n : Int)))
 (nn true p fun (b o : Nat) =>
 (0 ≤ x ∧ x < (↑n : Int)) ∧
 ∃ (x_1 : ByteArray),
 ∃ (x_2 : Int),
 ∃ (x_3 : Int),
 AtL w' b (o + x.toNat * 3) [Value.string x_1, Value.int IntKind.i64 x_2, Value.int IntKind.i64 x_3] ∧
 CallsS Tryz.prog 18 #[Value.agg #[Value.string x_1, Value.int IntKind.i64 x_2, Value.int IntKind.i64 x_3]]
 w' fun (e : Ending) (w'_1 : World) =>
 ∃ (x_4 : Int),
 e = Ending.returned (Value.int IntKind.i64 x_4) ∧
 KeptL [] w' w'_1 ∧
 bsp (x_4 != 0) (R (Ending.returned (Value.int IntKind.i64 x_4)) w'_1)
 (I [Value.int IntKind.i64 (IntKind.i64.wrap (x + 1))] w'_1 ∧
 m [Value.int IntKind.i64 (IntKind.i64.wrap (x + 1))] w'_1 < m [Value.int IntKind.i64 x] w'))
 (R (Ending.returned (Value.int IntKind.i64 0)) w'))
theorem vc_xcheck (p : Option Addr) (n : Nat) (c : Nat) (w : World) (R : Ending → World → Prop) (h : VC_xcheck p n c w R) : Calls Tryz.prog 23 ([Value.slice
    p n c] : List Value).toArray w R := by
  have e : execR2 { P := Tryz.prog, loops := [(4, [(3, Ck.int IntKind.i64)])], pur := pur2, tails := [], joins := [], boxes := [] } Tryz.f23.results.toList R (Tryz.f23.body.getD .skip) (initF [Value.slice
    p n c] (Tryz.f23.ntmps - ([Value.slice p n c] : List Value).length)) w = VC_xcheck p n c w R := by kernel_rfl
  have hb : Tryz.f23.body = some (Tryz.f23.body.getD .skip) := by kernel_rfl
  exact calls_of_exec2' (P := Tryz.prog) (fn := Tryz.f23) (c := Tryz.f23.body.getD .skip) (args := [Value.slice p n
    c]) (w := w) (R := R) pur2_ok Tryz.func23 hb e h

end Go.Proofs.YtmjanmffnblcoaaGreatDoor

/- Chapter 42, the reference: the contracts of rule, Check, Days, less, older, find, Protected, total, goes, Wrong. No condition but sizes. -/
namespace Go.Proofs.YtmjanmffnblcoaaGreatDoor
open Go.RowKit Go.Sort Go.Maps

theorem xrule_any (r : Rl) (w : World) : Calls Tryz.prog 18 #[.agg #[.string r.pat, .int .i64 r.lo, .int .i64 r.hi]] w fun e w' => e = .returned (.int .i64 (rl1 r)) ∧ K0 w w' := by
  refine vc_xrule r.pat r.lo r.hi w _ ?_
  intro n W hW
  have kW : K0 w W := hW.kk rfl
  refine ⟨(rcompile_any r.pat W).mono fun e w1 ⟨k1, he⟩ => ?_⟩
  cases hc : compileR r.pat with
  | inr oe =>
    obtain ⟨o', e'⟩ := oe
    rw [hc] at he
    have hne0 := (compileR_off _ _ _ hc).2
    have e1 : rl1 r = 3 := by unfold rl1; rw [hc]
    rw [e1]
    exact ⟨_, _, _, _, _, _, he, .of_k0 k1, fun n2 => bsp_intro (fun _ W2 hW2 => ⟨rfl, (kW.trans k1).trans (hW2.kk rfl)⟩) (fun h => by exfalso; simp at h; exact hne0 h)⟩
  | inl els =>
    rw [hc] at he
    obtain ⟨p, c, rs, he, _, _⟩ := he
    have e1 : rl1 r = if r.lo < 0 ∨ r.hi < r.lo ∨ 36500 < r.hi then 2 else 0 := by unfold rl1; rw [hc]
    refine ⟨_, _, _, _, _, _, he, .of_k0 k1, fun n2 => bsp_intro (fun h => by simp at h) (fun _ => ?_)⟩
    refine ⟨r.lo, gimp_intro fun _ W2 hW2 => cell_at (hW2.cells 1 rfl) rfl, r.hi, gimp_intro fun _ W2 hW2 => cell_at (hW2.cells 1 rfl) rfl, r.hi, gimp_intro fun _ W2 hW2 => cell_at (hW2.cells 1 rfl) rfl, bsp_intro (fun h W2 hW2 => ⟨?_, (kW.trans k1).trans (hW2.kk rfl)⟩) (fun h W2 hW2 => ⟨?_, (kW.trans k1).trans (hW2.kk rfl)⟩)⟩
    · rw [e1, if_pos]; simp at h; omega
    · rw [e1, if_neg]; simp at h; omega
theorem xcheck_any (L : List Rl) (p : Option Addr) (c : Nat) (w : World) (hR : RowA rlC 3 w p L) :
    Calls Tryz.prog 23 #[.slice p L.length c] w fun e w' => e = .returned (.int .i64 (chkR L)) ∧ K0 w w' := by
  refine vc_xcheck p L.length c w _ ?_
  refine bsp_intro (fun h => ?_) (fun h => ?_)
  · have h : 64 < L.length := by simp at h; omega
    exact ⟨by unfold chkR; rw [if_pos h], .refl _ _⟩
  have h : L.length ≤ 64 := by simp at h; omega
  have eC : chkR L = rlF L := by unfold chkR; rw [if_neg (by omega)]
  rw [eC]
  refine ⟨fun vs w' => ∃ i : Nat, vs = [.int .i64 (i : Int)] ∧ i ≤ L.length ∧ rlF (L.take i) = 0 ∧ K0 w w', fun vs _ => (match vs with | .int _ x :: _ => L.length - x.toNat | _ => 0), ⟨0, rfl, by omega, rfl, .refl _ _⟩, ?_⟩
  rintro x w1 ⟨i, hv, hi, hok, k1⟩
  simp only [List.cons.injEq, Value.int.injEq, true_and, and_true] at hv
  subst hv
  refine bsp_intro (fun hlt => ?_) (fun hge => ?_)
  · have hlt : i < L.length := by simp at hlt; omega
    obtain ⟨r, b, o, hr, rfl, hat⟩ := (hR.k0 k1).get hlt
    show (0 ≤ (i : Int) ∧ (i : Int) < (L.length : Int)) ∧ _
    rw [Int.toNat_natCast]
    refine ⟨by omega, r.pat, r.lo, r.hi, hat, ⟨(xrule_any r w1).mono fun e w2 ⟨he, k2⟩ => ⟨_, he, .of_k0 k2, bsp_intro (fun hne => ?_) (fun hne => ?_)⟩⟩⟩
    · have hne : rl1 r ≠ 0 := by simpa using hne
      exact ⟨by rw [rlF_hit hok hr hne], k1.trans k2⟩
    · have hne : rl1 r = 0 := by simpa using hne
      exact ⟨⟨i + 1, by rw [inc64 (by omega)], hlt, rlF_next hok hr hne, k1.trans k2⟩, by rw [inc64 (by omega)]; simp only [Int.toNat_natCast]; omega⟩
  · have hi : i = L.length := by simp at hge; omega
    rw [hi, List.take_length] at hok
    exact ⟨by rw [hok], k1⟩
theorem rl1_ok : ∀ {L : List Rl}, rlF L = 0 → ∀ r ∈ L, ∃ els, compileR r.pat = .inl els
  | [], _, r, h => by cases h
  | x :: L, h, r, hr => by
    have e : rlF (x :: L) = if rl1 x ≠ 0 then rl1 x else rlF L := rfl
    rw [e] at h
    split at h
    · rename_i h1; exact absurd h h1
    · rename_i h1
      have h1 : rl1 x = 0 := by omega
      rcases List.mem_cons.1 hr with he | he
      · subst he
        unfold rl1 at h1
        split at h1
        · cases h1
        · rename_i els hc; exact ⟨els, hc⟩
      · exact rl1_ok h r he
theorem chkR_rlF {L : List Rl} (h : chkR L = 0) : rlF L = 0 := by
  unfold chkR at h
  split at h
  · cases h
  · exact h

end Go.Proofs.YtmjanmffnblcoaaGreatDoor
