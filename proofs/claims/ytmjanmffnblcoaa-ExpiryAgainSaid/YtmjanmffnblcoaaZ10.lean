/- Chapter 42: what step takes is what the plan takes (plain), and the contract of Plan. No condition but sizes. -/
import Derived.Test.YtmjanmffnblcoaaZ09
import Derived.Test.YtmjanmffnblcoaaZ06
import Derived.Lib.SplitLaws
import Derived.Lib.CountLaws
import Derived.Test.YtmjanmffnblcoaaProg
import Derived.Test.YtmjanmffnblcoaaZ02
import Derived.Test.YtmjanmffnblcoaaZ05
import Derived.KernelRfl
namespace Go.Proofs.Ytmjanmffnblcoaa
open Go.RowKit Go.Sort Go.Maps

def plX (y : CX) : Ar := y.a.pl
theorem fidx_find {α : Type} {P : α → Bool} : ∀ (l : List α), (match l.findIdx? P with | some i => l[i]? | none => none) = l.find? P
  | [] => rfl
  | x :: l => by
    rw [List.findIdx?_cons, List.find?_cons]
    cases h : P x with
    | true => rfl
    | false =>
      have ih := fidx_find (P := P) l
      cases hf : l.findIdx? P with
      | none => rw [hf] at ih; simpa using ih
      | some i => rw [hf] at ih; simpa using ih
section
variable {L : List Rl} {now budget : Int} {cur : List CX} {ids : List (List Int)}
theorem goC_goB (hmk : ∀ y ∈ cur, y = mkC L now y.a) (hids : ∀ i, i ∈ ids ↔ i ∈ cur.map idX) {y : CX} (hy : y ∈ cur) {k : Nat} (hk : k = 1 ∨ k = 2 ∨ k = 3) : goC (totS (cur.map plX)) budget ids k y = goB L now budget (cur.map plX) k (plX y) := by
  have e := hmk y hy
  have e1 : y.fx = fixB now y.a.pl := by rw [e]; rfl
  have e2 : y.ov = overB L now y.a.pl := by rw [e]; rfl
  have e3 : y.my = mayB L now y.a.pl := by rw [e]; rfl
  have hp : protC ids y = protB now (cur.map plX) (plX y) := by
    unfold protC protB
    rw [e1]
    congr 1
    show _ = (y.a.hs.map idI).any _
    rw [List.any_map]
    congr 1
    funext h
    show decide (idI h ∈ ids) = hereB (cur.map plX) (idI h)
    unfold hereB
    rw [List.any_map, Bool.eq_iff_iff, decide_eq_true_iff, hids, List.any_eq_true]
    constructor
    · intro hm
      obtain ⟨z, hz, he⟩ := List.mem_map.1 hm
      exact ⟨z, hz, decide_eq_true he⟩
    · rintro ⟨z, hz, he⟩
      exact List.mem_map.2 ⟨z, hz, of_decide_eq_true he⟩
  unfold goC goB
  rw [hp]
  congr 1
  rcases hk with rfl | rfl | rfl
  · rfl
  · exact e2
  · show (decide (budget < totS (cur.map plX)) && y.my) = (decide (budget < totS (cur.map plX)) && mayB L now y.a.pl)
    rw [e3]
theorem find_congr {α : Type} {P Q : α → Bool} : ∀ {l : List α}, (∀ x ∈ l, P x = Q x) → l.find? P = l.find? Q
  | [], _ => rfl
  | x :: l, h => by rw [List.find?_cons, List.find?_cons, h x (by simp), find_congr (fun y hy => h y (by simp [hy]))]
theorem pickI_S (hmk : ∀ y ∈ cur, y = mkC L now y.a) (hids : ∀ i, i ∈ ids ↔ i ∈ cur.map idX) :
    match pickI (totS (cur.map plX)) budget ids cur with
    | none => pickS L now budget (cur.map plX) = none
    | some (i, k) => ∃ y, cur[i]? = some y ∧ pickS L now budget (cur.map plX) = some (plX y, k) := by
  have key : ∀ k, (k = 1 ∨ k = 2 ∨ k = 3) → (cur.map plX).find? (goB L now budget (cur.map plX) k) = (match cur.findIdx? (goC (totS (cur.map plX)) budget ids k) with | some i => cur[i]? | none => none).map plX := fun k hk => by
    rw [fidx_find, List.find?_map, find_congr (P := goC (totS (cur.map plX)) budget ids k) (fun y hy => goC_goB hmk hids hy hk)]
    rfl
  unfold pickI pickS
  rw [key 1 (.inl rfl), key 2 (.inr (.inl rfl)), key 3 (.inr (.inr rfl))]
  have some_at : ∀ {k i : Nat}, cur.findIdx? (goC (totS (cur.map plX)) budget ids k) = some i → ∃ y, cur[i]? = some y := fun {k i} h => by
    rw [List.findIdx?_eq_some_iff_getElem] at h
    exact ⟨_, List.getElem?_eq_getElem h.1⟩
  cases h1 : cur.findIdx? (goC (totS (cur.map plX)) budget ids 1) with
  | some i =>
    obtain ⟨y, hy⟩ := some_at h1
    simp only [hy]
    exact ⟨y, rfl, rfl⟩
  | none =>
    cases h2 : cur.findIdx? (goC (totS (cur.map plX)) budget ids 2) with
    | some i =>
      obtain ⟨y, hy⟩ := some_at h2
      simp only [hy]
      exact ⟨y, rfl, rfl⟩
    | none =>
      cases h3 : cur.findIdx? (goC (totS (cur.map plX)) budget ids 3) with
      | some i =>
        obtain ⟨y, hy⟩ := some_at h3
        simp only [hy]
        exact ⟨y, rfl, rfl⟩
      | none => rfl
theorem erase_without : ∀ {l : List CX} {i : Nat} {y : CX}, (l.map idX).Nodup → l[i]? = some y → without (l.map plX) (idX y) = (l.eraseIdx i).map plX
  | [], i, y, _, h => by simp at h
  | x :: l, 0, y, hd, h => by
    simp at h
    subst h
    rw [List.map_cons, List.nodup_cons] at hd
    unfold without
    rw [List.map_cons, List.filter_cons, if_neg (by show ¬ (!decide ((plX x).id = idX x)) = true; simp [plX, idX, AX.pl])]
    show _ = l.map plX
    refine List.filter_eq_self.2 fun b hb => ?_
    obtain ⟨z, hz, rfl⟩ := List.mem_map.1 hb
    have : ¬ (plX z).id = idX x := fun e => hd.1 (List.mem_map.2 ⟨z, hz, e⟩)
    simp [this]
  | x :: l, i + 1, y, hd, h => by
    have h' : l[i]? = some y := by simpa using h
    rw [List.map_cons, List.nodup_cons] at hd
    have hne : ¬ (plX x).id = idX y := fun e => hd.1 (List.mem_map.2 ⟨y, List.mem_of_getElem? h', e.symm⟩)
    have ih := erase_without hd.2 h'
    unfold without at ih ⊢
    rw [List.map_cons, List.filter_cons, if_pos (by simp [hne]), ih]
    rfl
theorem totS_erase : ∀ {l : List CX} {i : Nat} {y : CX}, l[i]? = some y → totS ((l.eraseIdx i).map plX) = totS (l.map plX) - y.a.by_
  | [], i, y, h => by simp at h
  | x :: l, 0, y, h => by
    simp at h; subst h
    show totS (l.map plX) = totS (plX x :: l.map plX) - x.a.by_
    unfold totS
    rw [List.map_cons, List.sum_cons]
    show _ = x.a.by_ + _ - x.a.by_
    omega
  | x :: l, i + 1, y, h => by
    have ih := totS_erase (l := l) (i := i) (y := y) (by simpa using h)
    show totS (plX x :: (l.eraseIdx i).map plX) = totS (plX x :: l.map plX) - y.a.by_
    unfold totS at ih ⊢
    rw [List.map_cons, List.map_cons, List.sum_cons, List.sum_cons, ih]
    omega
theorem nodup_erase {l : List CX} {i : Nat} (h : (l.map idX).Nodup) : ((l.eraseIdx i).map idX).Nodup := h.sublist ((List.eraseIdx_sublist l i).map _)
theorem mem_without {l : List CX} {i : Nat} {y : CX} (h : (l.map idX).Nodup) (hy : l[i]? = some y) (hids : ∀ j, j ∈ ids ↔ j ∈ l.map idX) : ∀ j, j ∈ without' ids (idI y.a.id) ↔ j ∈ (l.eraseIdx i).map idX := by
  intro j
  have e : (l.eraseIdx i).map idX = (without (l.map plX) (idX y)).map (·.id) := by
    rw [erase_without h hy, List.map_map]; rfl
  rw [e]
  unfold without' without
  rw [List.mem_filter, hids, List.mem_map, List.mem_map]
  constructor
  · rintro ⟨⟨z, hz, rfl⟩, h2⟩
    exact ⟨plX z, List.mem_filter.2 ⟨List.mem_map.2 ⟨z, hz, rfl⟩, h2⟩, rfl⟩
  · rintro ⟨a, ha, rfl⟩
    obtain ⟨h1, h2⟩ := List.mem_filter.1 ha
    obtain ⟨z, hz, rfl⟩ := List.mem_map.1 h1
    exact ⟨⟨z, hz, rfl⟩, h2⟩
end
theorem errA_ok : ∀ {l : List Ar} {seen : List (List Int)}, seen.Nodup → errA seen l = 0 → (∀ a ∈ l, arBad a = false) ∧ (seen ++ l.map (·.id)).Nodup
  | [], seen, hs, _ => ⟨(fun a h => by cases h), by simpa using hs⟩
  | a :: l, seen, hs, h => by
    have e : errA seen (a :: l) = if arBad a = true then 2 else if a.id ∈ seen then 7 else errA (seen ++ [a.id]) l := rfl
    rw [e] at h
    split at h
    · cases h
    · rename_i hb
      split at h
      · cases h
      · rename_i hn
        have hs' : (seen ++ [a.id]).Nodup := by
          rw [List.nodup_append]
          exact ⟨hs, by simp, fun x hx y hy e => by simp at hy; subst hy; subst e; exact hn hx⟩
        obtain ⟨h1, h2⟩ := errA_ok hs' h
        refine ⟨fun x hx => ?_, by simpa using h2⟩
        rcases List.mem_cons.1 hx with rfl | hx
        · simpa using hb
        · exact h1 x hx
theorem arOK_of {x : AX} (h : arBad x.pl = false) (gl : x.gs.length ≤ 1048576) (gz : ∀ z ∈ x.gs, z.size ≤ 9223372036854775807) (hl : x.hs.length ≤ 1048576) (id : ∀ j, 0 ≤ x.id j ∧ x.id j ≤ 255) (hs : ∀ h ∈ x.hs, ∀ j, 0 ≤ h j ∧ h j ≤ 255) : ArOK x := by
  unfold arBad at h
  simp only [Bool.or_eq_false_iff, Bool.not_eq_false', decide_eq_false_iff_not] at h
  obtain ⟨⟨⟨⟨⟨h1, h2⟩, h3⟩, h4⟩, h5⟩, h6⟩ := h
  unfold minB at h1 h2
  simp only [Bool.and_eq_true, decide_eq_true_eq] at h1 h2
  exact ⟨h1, h2, ⟨by show 0 ≤ x.pl.by_; omega, by show x.pl.by_ ≤ _; omega⟩, ⟨by show 0 ≤ x.pl.ct; omega, by show x.pl.ct ≤ _; omega⟩, gl, gz, hl, id, hs⟩

/-- Articles that are not too many and not too long. -/
structure ArSz (x : AX) : Prop where
  gl : x.gs.length ≤ 1048576
  gz : ∀ z ∈ x.gs, z.size ≤ 9223372036854775807
  hl : x.hs.length ≤ 1048576
  id : ∀ j, 0 ≤ x.id j ∧ x.id j ≤ 255
  hs : ∀ h ∈ x.hs, ∀ j, 0 ≤ h j ∧ h j ≤ 255
def planErr (L : List Rl) (l : List Ar) (now budget : Int) : Int := if chkR L ≠ 0 then chkR L else if (!minB now || decide (budget < 0)) = true then 2 else errA [] l
def whyC (r : (Nat → Int) × Nat) : List Value := whyL r.1 (r.2 : Int)
theorem whyC_length (r : (Nat → Int) × Nat) : (whyC r).length = 33 := rfl
def whyS (r : (Nat → Int) × Nat) : List Int × Nat := (idI r.1, r.2)

set_option maxRecDepth 100000 in
set_option maxHeartbeats 2000000 in
theorem eplan_any (L : List Rl) (p : Option Addr) (c : Nat) (l : List AX) (q : Option Addr) (d : Nat) (now budget : Int) (w : World) (hR : RowA rlC 3 w p L) (hA : RowA axC 39 w q l) (hX : ∀ x ∈ l, AXR w x) (hsz : ∀ x ∈ l, ArSz x) (hl : l.length ≤ 1000) :
    Calls Try.prog 14 #[.slice p L.length c, .slice q l.length d, .int .i64 now, .int .i64 budget] w fun e w' => K0 w w' ∧
      ((planErr L (l.map AX.pl) now budget ≠ 0 ∧ e = .returned (.tuple #[.slice none 0 0, .int .i64 (planErr L (l.map AX.pl) now budget)])) ∨
       (planErr L (l.map AX.pl) now budget = 0 ∧ ∃ (R : List ((Nat → Int) × Nat)) (p' : Option Addr) (c' : Nat), e = .returned (.tuple #[.slice p' R.length c', .int .i64 0]) ∧ w'.ownsRow w.heap.size 44 33 (.slice p' R.length c') R.length (R.flatMap whyC) ∧ R.map whyS = (refP L now budget l.length (l.map AX.pl)).1 ∧ (∀ r ∈ R, ∀ j, 0 ≤ r.1 j ∧ r.1 j ≤ 255))) := by
  refine vc_eplan p L.length c q l.length d now budget w _ ?_
  refine ⟨(ecompile_any L p c w hR).mono fun e w1 ⟨k1, he⟩ => ?_⟩
  rcases he with ⟨h0, q2, d2, bs, he, hbs, hP⟩ | ⟨h0, he⟩
  rotate_left
  · have eP : planErr L (l.map AX.pl) now budget = chkR L := by unfold planErr; rw [if_pos h0]
    rw [eP]
    exact ⟨_, _, _, _, _, _, _, he, .of_k0 k1, fun n2 => bsp_intro (fun _ W hW => ⟨k1.trans (hW.kk rfl), .inl ⟨h0, rfl⟩⟩) (fun h => by simp at h; exact absurd h h0)⟩
  refine ⟨_, _, _, _, _, _, _, he, .of_k0 k1, fun n2 => bsp_intro (fun h => by simp at h) (fun _ => ?_)⟩
  refine bsp_intro (fun hbad W hW => ?_) (fun hgood W hW => ?_)
  · have eP : planErr L (l.map AX.pl) now budget = 2 := by unfold planErr; rw [if_neg (by simpa using h0), if_pos hbad]
    rw [eP]
    exact ⟨k1.trans (hW.kk rfl), .inl ⟨by decide, rfl⟩⟩
  have eP : planErr L (l.map AX.pl) now budget = errA [] (l.map AX.pl) := by unfold planErr; rw [if_neg (by simpa using h0), if_neg (by simpa using hgood)]
  rw [eP]
  have kW : K0 w W := k1.trans (hW.kk rfl)
  refine ⟨(echeckA_any l q d W (fun k y hy => by
    obtain ⟨b, o, h1, h2⟩ := hA k y hy
    exact ⟨b, o, h1, h2.k0 kW⟩) (by omega) (fun x hx => (hsz x hx).id)).mono fun e w2 ⟨he, k2⟩ => ⟨_, he, .of_k0 k2, ?_⟩⟩
  have kw2 : K0 w w2 := kW.trans k2
  refine bsp_intro (fun hbad => ?_) (fun hgood2 => ?_)
  · have hbad : errA [] (l.map AX.pl) ≠ 0 := by simpa using hbad
    exact ⟨kw2, .inl ⟨hbad, rfl⟩⟩
  have herr : errA [] (l.map AX.pl) = 0 := by simpa using hgood2
  obtain ⟨hgoodA, hnd⟩ := errA_ok .nil herr
  rw [List.nil_append] at hnd
  have hok : ∀ x ∈ l, ArOK x := fun x hx => by
    have h := hsz x hx
    exact arOK_of (hgoodA x.pl (List.mem_map.2 ⟨x, hx, rfl⟩)) h.gl h.gz h.hl h.id h.hs
  have hrl := rlF_all (l := L) (by
    unfold chkR at h0
    split at h0
    · cases h0
    · exact h0)
  refine ⟨(enewP_any L p c q2 d2 bs l q d now budget w2 (hR.k0 kw2) (hP.k0 ((hW.kk rfl).trans k2)) hbs (chkR_len h0) hrl (hA.k0 kw2) (fun x hx => (hX x hx).k0 kw2) hok hl).mono fun e w3 he3 => ?_⟩
  obtain ⟨b, p', c', mb, hs, he, hpl, hperm, hsrt⟩ := he3
  have k3 : K0 w2 w3 := hpl.k0
  refine ⟨_, he, .of_k0 k3, ?_⟩
  -- the candidates
  have hmk : ∀ y ∈ hs, y = mkC L now y.a ∧ y.a ∈ l := fun y hy => by
    obtain ⟨x, hx, rfl⟩ := List.mem_map.1 (hperm.mem_iff.1 hy)
    exact ⟨rfl, hx⟩
  have hplp : (hs.map plX).Perm (l.map AX.pl) := by
    have := hperm.map plX
    rw [List.map_map] at this
    exact this
  have hArs : ArsOK (l.map AX.pl) := ⟨by
    have := hnd
    rwa [List.map_map] at this ⊢, fun a ha => by
    obtain ⟨x, hx, rfl⟩ := List.mem_map.1 ha
    exact idI_bd (hok x hx).id⟩
  have hsrtA : srtA (hs.map plX) := by
    show ((hs.map plX).map keyA).Pairwise _
    rw [List.map_map, List.pairwise_map]
    refine hsrt.imp_of_mem fun {x y} hx hy hxy => ?_
    have hx' := idI_bd (hok _ (hmk x hx).2).id
    have hy' := idI_bd (hok _ (hmk y hy).2).id
    have := cfJ_K (x := keyX y) (y := keyX x) hy' hx'
    show ¬ cfK (keyA y.a.pl) (keyA x.a.pl) < 0
    rw [show cfK (keyA y.a.pl) (keyA x.a.pl) = cfX y x from this]
    exact hxy
  have href := (ref_plan (l := L) (now := now) (budget := budget) l.length (l.map AX.pl) (hs.map plX) hplp hsrtA hArs).1
  have hlen : hs.length = l.length := by have := hperm.length_eq; rw [List.length_map] at this; exact this
  have htot : sumB l = totS (hs.map plX) := by
    rw [tot_perm hplp]
    unfold sumB totS
    rw [List.map_map]; rfl
  have hids0 : ∀ i, i ∈ (l.map fun x => idI x.id) ↔ i ∈ hs.map idX := fun i => by
    have := (hplp.map (·.id)).mem_iff (a := i)
    rw [List.map_map, List.map_map] at this
    exact this.symm
  have hnd0 : (hs.map idX).Nodup := by
    have := (hplp.map (·.id)).nodup_iff.2 (by rw [List.map_map] at hnd ⊢; exact hnd)
    rw [List.map_map] at this
    exact this
  rw [htot] at hpl
  refine ⟨fun vs w' => ∃ (R : List ((Nat → Int) × Nat)) (p9 : Option Addr) (c9 : Nat) (cur : List CX) (ids : List (List Int)), vs = [.slice p9 R.length c9] ∧ R.length + cur.length = l.length ∧ (∀ y ∈ cur, y ∈ hs) ∧ (∀ i, i ∈ ids ↔ i ∈ cur.map idX) ∧ (cur.map idX).Nodup ∧
      R.map whyS ++ (planS L now budget cur.length (cur.map plX)).1 = (planS L now budget l.length (hs.map plX)).1 ∧ (∀ r ∈ R, ∀ j, 0 ≤ r.1 j ∧ r.1 j ≤ 255) ∧ PlR w2 w' b p' c' mb (totS (cur.map plX)) budget cur ids ∧ w'.ownsRow w2.heap.size 44 33 (.slice p9 R.length c9) R.length (R.flatMap whyC),
    fun vs _ => (match vs with | .slice _ n _ :: _ => l.length - n | _ => 0), ⟨[], none, 0, hs, _, rfl, by simpa using hlen, (fun y hy => hy), hids0, hnd0, by rw [List.map_nil, List.nil_append, hlen], (fun r hr => by cases hr), hpl, World.ownsRow_nil _ _ _ _⟩, ?_⟩
  rintro p9 n9 c9 w4 ⟨R, p9', c9', cur, ids, hv, hRc, hcur, hids, hndc, hplan, hRb, hpl4, ho4⟩ hL4
  simp only [List.cons.injEq, Value.slice.injEq, and_true] at hv
  obtain ⟨rfl, rfl, rfl⟩ := hv
  have okc : ∀ y ∈ cur, ArOK y.a := fun y hy => hok _ (hmk y (hcur y hy)).2
  have hbd := sumB_bd (cur.map (·.a)) (fun x hx => by
    obtain ⟨y, hy, rfl⟩ := List.mem_map.1 hx
    exact (okc y hy).by_)
  have etot : totS (cur.map plX) = sumB (cur.map (·.a)) := by
    unfold totS sumB
    rw [List.map_map, List.map_map]; rfl
  rw [List.length_map] at hbd
  have hcl : cur.length ≤ 1000 := by omega
  refine ⟨(estep_any hpl4 okc hcl (by rw [etot]; omega)).mono fun e w5 he5 => ?_⟩
  have hpk := pickI_S (L := L) (now := now) (budget := budget) (fun y hy => (hmk y (hcur y hy)).1) hids
  rcases he5 with ⟨hno, he, k5⟩ | ⟨i, k, y, hpick, hy, he, hpl5, k5⟩
  · rw [hno] at hpk
    simp only at hpk
    refine ⟨_, _, _, he, .of_k0 k5, fun n4 => bsp_intro (fun _ W6 hW6 => ?_) (fun h => absurd h (by decide))⟩
    have k6 : K0 w5 W6 := hW6.kk rfl
    have hK : K0 w w4 := kw2.trans hpl4.k0
    refine ⟨(hK.trans k5).trans k6, .inr ⟨herr, R, p9, c9, rfl, own_base (owns_kp (owns_kp ho4 k5 (fun _ _ h => h)) k6 (fun _ _ h => h)) kw2.size, ?_, hRb⟩⟩
    rw [href, ← hplan]
    have : (planS L now budget cur.length (cur.map plX)).1 = [] := by
      cases hn : cur.length with
      | zero => rfl
      | succ n => simp only [planS, hpk]
    rw [this, List.append_nil]
  · rw [hpick] at hpk
    obtain ⟨y', hy', hpS⟩ := hpk
    rw [hy] at hy'
    simp at hy'
    subst hy'
    have hil : i < cur.length := (List.getElem?_eq_some_iff.1 hy).1
    have hnr : ∀ j, (Value.slice p9 R.length c9).ownBlock = some j → ¬ (j = b ∨ j = mb ∨ (Value.slice p' cur.length c').ownBlock = some j) := fun j hj => by
      obtain ⟨cc, hcc⟩ := own_type ho4 hj
      obtain ⟨es, cl, hmb⟩ := hpl4.mapAt
      rintro (e | e | e)
      · exact blk_ne hcc hpl4.blk rfl e
      · exact blk_neMap hcc hmb e
      · exact own_not hpl4.own hcc rfl e
    have ho5 := owns_kp ho4 k5 hnr
    have hn2 := hL4.cells 0 rfl
    have hn2r : ¬ (n2 = b ∨ n2 = mb ∨ (Value.slice p' cur.length c').ownBlock = some n2) := by
      obtain ⟨es, cl, hmb⟩ := hpl4.mapAt
      rintro (e | e | e)
      · exact blk_ne hn2 hpl4.blk rfl e
      · exact blk_neMap hn2 hmb e
      · exact own_not hpl4.own hn2 rfl e
    refine ⟨y.a.id, (k : Int), true, he, .of_kp k5 (fun z hz => by simp at hz; subst hz; exact hn2r), fun n4 => bsp_intro (fun h => absurd h (by decide)) (fun _ n5 W6 hW6 => ?_)⟩
    have k6 : K0 w5 W6 := hW6.kk rfl
    have ho6 := owns_kp ho5 k6 (fun _ _ h => h)
    have hpl6 := hpl5.k k6
    refine ⟨w2.heap.size, _, ho6, by omega, by omega, hpl6.k0.size, fun p8 c8 w7 ho7 hg7 _ => ?_⟩
    have k7 := kp_grown hg7
    have hn2' := hW6.cells 0 rfl
    have hn4' := hW6.cells 2 rfl
    have r2 : ¬ (Value.slice p9 R.length c9).ownBlock = some n2 := own_not ho6 hn2' rfl
    have r4 : ¬ (Value.slice p9 R.length c9).ownBlock = some n4 := fun e => by
      have h1 := own_lt ho5 e
      have h2 := hW6.fresh 2 rfl rfl
      simp only at h2
      omega
    have rb : ¬ (Value.slice p9 R.length c9).ownBlock = some b := own_not ho6 hpl6.blk rfl
    obtain ⟨es, cl, hmb⟩ := hpl6.mapAt
    have rmb : ¬ (Value.slice p9 R.length c9).ownBlock = some mb := own_notMap ho6 hmb
    have hel : (cur.eraseIdx i).length = cur.length - 1 := List.length_eraseIdx_of_lt hil
    refine ⟨.of_kp k7 (fun z hz => ?_), ⟨R ++ [(y.a.id, k)], p8, c8, cur.eraseIdx i, without' ids (idI y.a.id), by simp, ?_, ?_, ?_, nodup_erase hndc, ?_, ?_, ?_, ?_⟩, ?_⟩
    · simp only [List.mem_cons, List.not_mem_nil, or_false] at hz
      rcases hz with rfl | rfl
      · exact r2
      · exact r4
    · rw [List.length_append, hel]; simp only [List.length_cons, List.length_nil]; omega
    · exact fun z hz => hcur z (List.mem_of_mem_eraseIdx hz)
    · exact mem_without hndc hy hids
    · rw [← hplan, List.map_append, List.append_assoc]
      congr 1
      have e1 : cur.length = (cur.eraseIdx i).length + 1 := by omega
      have e2 : (planS L now budget cur.length (cur.map plX)).1 = ((plX y).id, k) :: (planS L now budget (cur.eraseIdx i).length (without (cur.map plX) (plX y).id)).1 := by
        rw [e1]
        simp only [planS, hpS]
      rw [e2]
      show whyS (y.a.id, k) :: _ = _
      rw [show without (cur.map plX) (plX y).id = (cur.eraseIdx i).map plX from erase_without hndc hy]
      rfl
    · intro r hr
      rcases List.mem_append.1 hr with h | h
      · exact hRb r h
      · simp at h
        subst h
        exact (okc y (List.mem_of_getElem? hy)).id
    · have hpl6' : PlR w2 W6 b p' c' mb (totS ((cur.eraseIdx i).map plX)) budget (cur.eraseIdx i) (without' ids (idI y.a.id)) := by rw [totS_erase hy]; exact hpl6
      refine hpl6'.kp k7 rb (fun j hj e => ?_) rmb (Kp.fresh hpl6.k0 k7 (fun j hj e => by have := own_ge ho6 e; omega))
      obtain ⟨cc, hcc⟩ := own_type ho6 e
      exact own_not hpl6'.own hcc rfl hj
    · rw [List.flatMap_append]
      have e : (R ++ [(y.a.id, k)]).length = R.length + 1 := by simp
      rw [e]
      simpa [whyC, whyL] using ho7
    · simp only
      omega

end Go.Proofs.Ytmjanmffnblcoaa

/- Matching by rows (plain): the marks of the program's Match are those of a table of prefixes. No condition. -/
namespace Go.Proofs.Ytmjanmffnblcoaa

def rowS (prev h : Nat → Bool) : Nat → Bool
  | 0 => prev 0
  | k + 1 => prev (k + 1) || (h k && rowS prev h k)
def rowC (prev h : Nat → Bool) : Nat → Bool
  | 0 => false
  | k + 1 => h k && prev k
/-- The first i elements match the first k characters. -/
def pmF (st : Nat → Bool) (h : Nat → Nat → Bool) : Nat → Nat → Bool
  | 0, k => k == 0
  | i + 1, k => if st i = true then rowS (pmF st h i) (h i) k else rowC (pmF st h i) (h i) k
theorem pmF_zero (st : Nat → Bool) (h : Nat → Nat → Bool) (i : Nat) : pmF st h (i + 1) 0 = (st i && pmF st h i 0) := by
  simp only [pmF]; cases st i <;> simp [rowS, rowC]
theorem pmF_succ (st : Nat → Bool) (h : Nat → Nat → Bool) (i k : Nat) : pmF st h (i + 1) (k + 1) = if st i = true then pmF st h i (k + 1) || (h i k && pmF st h (i + 1) k) else h i k && pmF st h i k := by
  simp only [pmF]; cases hs : st i <;> simp [rowS, rowC]
theorem run_pm (els : List El) (s : ByteArray) : ∀ (k j : Nat), runF els s k j = if elS els j = true then pmF (elS els) (fun i k => elH els i (at8 s k)) (j + 1) k else pmF (elS els) (fun i k => elH els i (at8 s k)) j k := by
  intro k
  induction k with
  | zero =>
    have key : ∀ j, spF (elS els) (fun j => j == 0) j = pmF (elS els) (fun i k => elH els i (at8 s k)) j 0 := by
      intro j
      induction j with
      | zero => rfl
      | succ j ih => rw [pmF_zero, spF, ih]; simp
    intro j
    rw [runF, key]
    split
    · rename_i hs; rw [pmF_zero, hs]; simp
    · rfl
  | succ k ih =>
    intro j
    rw [runF]
    induction j with
    | zero =>
      rw [spF]
      simp only [stpF, ih 0]
      cases hs : elS els 0 with
      | true => rw [if_pos rfl, if_pos rfl, pmF_succ, hs, if_pos rfl, Bool.and_comm]; simp [pmF]
      | false => simp [pmF]
    | succ j ihj =>
      rw [spF, ihj]
      have h1 : ((match j + 1 with | 0 => false | i + 1 => !elS els i && runF els s k i && elH els i (at8 s k)) || (elS els j && if elS els j = true then pmF (elS els) (fun i k => elH els i (at8 s k)) (j + 1) (k + 1) else pmF (elS els) (fun i k => elH els i (at8 s k)) j (k + 1))) = pmF (elS els) (fun i k => elH els i (at8 s k)) (j + 1) (k + 1) := by
        simp only [ih j]
        rw [pmF_succ]
        cases hs : elS els j with
        | true => simp
        | false => simp [Bool.and_comm]
      unfold stpF
      rw [Bool.or_assoc, h1, ih (j + 1)]
      cases hs : elS els (j + 1) with
      | true => rw [if_pos rfl, if_pos rfl, pmF_succ _ _ (j + 1), hs, if_pos rfl, Bool.or_comm, Bool.true_and, Bool.and_comm]
      | false => simp
/-- The program's Match by the table. -/
theorem match_pm (els : List El) (s : ByteArray) : matchB els s = pmF (elS els) (fun i k => elH els i (at8 s k)) els.length s.size := by
  unfold matchB
  rw [run_pm, if_neg (by simp [elS])]

end Go.Proofs.Ytmjanmffnblcoaa

/- Patterns of the reference (plain): matching by rows agrees with the program's Match, where the elements agree. No condition. -/
namespace Go.Proofs.Ytmjanmffnblcoaa

/-- An element of a pattern of the reference. -/
structure RE where
  star : Bool
  set : Nat → Bool
/-- An element and that of the reference. -/
structure RelE (e : El) (r : RE) : Prop where
  star : e.isStar = r.star
  set : r.star = false → ∀ c : Nat, c < 128 → hasB e.chars c = r.set c
  char : ∀ c : Int, 0 ≤ c → c ≤ 255 → hasB e.chars c = true → charB c = true
theorem name_char : ∀ c : Int, 0 ≤ c → c ≤ 255 → hasB nameBytes c = charB c := by
  have h : ∀ n : Fin 256, hasB nameBytes (n.val : Int) = charB (n.val : Int) := by decide +kernel
  intro c h0 h1
  have := h ⟨c.toNat, by omega⟩
  simp only at this
  rw [show ((c.toNat : Nat) : Int) = c by omega] at this
  exact this
theorem charB_lt {c : Int} (h : charB c = true) : 0 ≤ c ∧ c < 128 := by
  simp [charB, lowerB, digitB] at h
  omega
theorem pmF_congr {st st' : Nat → Bool} {h h' : Nat → Nat → Bool} : ∀ (i k : Nat), (∀ j, j < i → st j = st' j) → (∀ j l, j < i → l < k → h j l = h' j l) → pmF st h i k = pmF st' h' i k
  | 0, k, _, _ => rfl
  | i + 1, 0, h1, h2 => by
    rw [pmF_zero, pmF_zero, h1 i (by omega), pmF_congr i 0 (fun j hj => h1 j (by omega)) (fun j l hj hl => by omega)]
  | i + 1, k + 1, h1, h2 => by
    have a := pmF_congr i (k + 1) (fun j hj => h1 j (by omega)) (fun j l hj hl => h2 j l (by omega) hl)
    have b := pmF_congr (i + 1) k h1 (fun j l hj hl => h2 j l hj (by omega))
    have c := pmF_congr i k (fun j hj => h1 j (by omega)) (fun j l hj hl => h2 j l (by omega) (by omega))
    rw [pmF_succ, pmF_succ, h1 i (by omega), h2 i k (by omega) (by omega), a, b, c]
theorem pmF_dead {st : Nat → Bool} {h : Nat → Nat → Bool} {k0 : Nat} (hd : ∀ i, h i k0 = false) : ∀ (i k : Nat), k0 < k → pmF st h i k = false
  | 0, k, hk => by simp [pmF]; omega
  | i + 1, 0, hk => by omega
  | i + 1, k + 1, hk => by
    rw [pmF_succ, pmF_dead hd i (k + 1) hk]
    by_cases e : k = k0
    · subst e; rw [hd i]; simp
    · rw [pmF_dead hd (i + 1) k (by omega), pmF_dead hd i k (by omega)]; simp
def rS (rs : List RE) (j : Nat) : Bool := match rs[j]? with | some r => r.star | none => false
def rH (rs : List RE) (j c : Nat) : Bool := match rs[j]? with | some r => r.set c | none => false
/-- The reference's Match. -/
def rmatchB (rs : List RE) (s : ByteArray) : Bool := (List.range s.size).all (fun i => charB (at8 s i)) && pmF (rS rs) (fun i k => rS rs i || rH rs i (at8 s k).toNat) rs.length s.size
/-- Elements that agree, one by one. -/
structure RelEs (els : List El) (rs : List RE) : Prop where
  len : els.length = rs.length
  at_ : ∀ (j : Nat) (e : El) (r : RE), els[j]? = some e → rs[j]? = some r → RelE e r
theorem RelEs.snoc {els : List El} {rs : List RE} (h : RelEs els rs) {e : El} {r : RE} (hr : RelE e r) : RelEs (els ++ [e]) (rs ++ [r]) := by
  refine ⟨by simp [h.len], fun j e' r' he hr' => ?_⟩
  rw [List.getElem?_append] at he hr'
  rw [← h.len] at hr'
  split at he
  · rename_i hj
    rw [if_pos hj] at hr'
    exact h.at_ j _ _ he hr'
  · rename_i hj
    rw [if_neg hj] at hr'
    cases hjj : j - els.length with
    | zero => rw [hjj] at he hr'; simp at he hr'; subst he; subst hr'; exact hr
    | succ n => rw [hjj] at he; simp at he
theorem rel_match {els : List El} {rs : List RE} (h : RelEs els rs) (s : ByteArray) : matchB els s = rmatchB rs s := by
  rw [match_pm]
  unfold rmatchB
  cases ha : (List.range s.size).all (fun i => charB (at8 s i)) with
  | false =>
    rw [Bool.false_and]
    rw [List.all_eq_false] at ha
    obtain ⟨k0, hk0, hc⟩ := ha
    rw [List.mem_range] at hk0
    refine pmF_dead (k0 := k0) (fun i => ?_) _ _ hk0
    unfold elH
    cases he : els[i]? with
    | none => rfl
    | some e =>
      have hlt : i < rs.length := by rw [← h.len]; exact (List.getElem?_eq_some_iff.1 he).1
      have hr := h.at_ i e _ he (List.getElem?_eq_getElem hlt)
      simp only
      cases hh : hasB e.chars (at8 s k0) with
      | false => rfl
      | true => exact absurd (hr.char _ (at8_bd s k0).1 (at8_bd s k0).2 hh) hc
  | true =>
    rw [Bool.true_and, h.len]
    have hst : ∀ j, elS els j = rS rs j := fun j => by
      unfold elS rS
      rcases Nat.lt_or_ge j els.length with hj | hj
      · have hj' : j < rs.length := by rw [← h.len]; exact hj
        rw [List.getElem?_eq_getElem hj, List.getElem?_eq_getElem hj']
        exact (h.at_ j _ _ (List.getElem?_eq_getElem hj) (List.getElem?_eq_getElem hj')).star
      · rw [List.getElem?_eq_none hj, List.getElem?_eq_none (by rw [← h.len]; exact hj)]
    refine pmF_congr _ _ (fun j _ => hst j) (fun j l hj hl => ?_)
    have hc : charB (at8 s l) = true := List.all_eq_true.1 ha l (List.mem_range.2 hl)
    have hcb := charB_lt hc
    have hj0 : j < els.length := by rw [h.len]; exact hj
    have hr := h.at_ j _ _ (List.getElem?_eq_getElem hj0) (List.getElem?_eq_getElem hj)
    unfold elH rS rH
    rw [List.getElem?_eq_getElem hj0, List.getElem?_eq_getElem hj]
    simp only
    generalize els[j] = e at hr
    generalize rs[j] = r at hr
    cases hs : r.star with
    | true =>
      have : e = .star := by
        have h1 := hr.star
        rw [hs] at h1
        cases e <;> simp [El.isStar] at h1
        rfl
      subst this
      rw [Bool.true_or]
      show hasB nameBytes _ = true
      rw [name_char _ hcb.1 (by omega)]; exact hc
    | false =>
      rw [Bool.false_or]
      have := hr.set hs (at8 s l).toNat (by omega)
      rw [show (((at8 s l).toNat : Nat) : Int) = at8 s l by omega] at this
      exact this

theorem at8_byte {s : ByteArray} {k : Nat} (h : k < s.size) : s.data.toList[k]? = some (at8 s k).toNat.toUInt8 := by
  rw [at8_lt s k h, Array.getElem?_toList, Array.getElem?_eq_getElem (show k < s.data.size from h)]
  congr 1
  show s[k] = _
  rw [Int.toNat_natCast]
  simp
theorem at8_extract (s : ByteArray) (a b j : Nat) (h : a + j < b) (hb : b ≤ s.size) : at8 (s.extract a b) j = at8 s (a + j) := by
  have h1 : j < (s.extract a b).size := by rw [ByteArray.size_extract]; omega
  rw [at8_lt _ _ h1, at8_lt s (a + j) (by omega)]
  rw [ByteArray.getElem_extract h1]

end Go.Proofs.Ytmjanmffnblcoaa

/- The formulas of functions by the symbolic evaluator, and that each gives the call's contract. Written by a program (gen.py). No condition. -/
namespace Go.Proofs.Ytmjanmffnblcoaa
set_option maxRecDepth 100000
set_option linter.unusedVariables false

def VC_rclass (s : ByteArray) (at_ : Int) (w : World) (R : Ending → World → Prop) : Prop :=
 ∀ (n : Nat) (w1 : World),
 NewB w
 (Obj.cells
 #[Value.bool false, Value.bool false, Value.bool false, Value.bool false, Value.bool false, Value.bool false,
 Value.bool false, Value.bool false, Value.bool false, Value.bool false, Value.bool false, Value.bool false,
 Value.bool false, Value.bool false, Value.bool false, Value.bool false, Value.bool false, Value.bool false,
 Value.bool false, Value.bool false, Value.bool false, Value.bool false, Value.bool false, Value.bool false,
 Value.bool false, Value.bool false, Value.bool false, Value.bool false, Value.bool false, Value.bool false,
 Value.bool false, Value.bool false, Value.bool false, Value.bool false, Value.bool false, Value.bool false,
 Value.bool false, Value.bool false, Value.bool false, Value.bool false, Value.bool false, Value.bool false,
 Value.bool false, Value.bool false, Value.bool false, Value.bool false, Value.bool false, Value.bool false,
 Value.bool false, Value.bool false, Value.bool false, Value.bool false, Value.bool false, Value.bool false,
 Value.bool false, Value.bool false, Value.bool false, Value.bool false, Value.bool false, Value.bool false,
 Value.bool false, Value.bool false, Value.bool false, Value.bool false, Value.bool false, Value.bool false,
 Value.bool false, Value.bool false, Value.bool false, Value.bool false, Value.bool false, Value.bool false,
 Value.bool false, Value.bool false, Value.bool false, Value.bool false, Value.bool false, Value.bool false,
 Value.bool false, Value.bool false, Value.bool false, Value.bool false, Value.bool false, Value.bool false,
 Value.bool false, Value.bool false, Value.bool false, Value.bool false, Value.bool false, Value.bool false,
 Value.bool false, Value.bool false, Value.bool false, Value.bool false, Value.bool false, Value.bool false,
 Value.bool false, Value.bool false, Value.bool false, Value.bool false, Value.bool false, Value.bool false,
 Value.bool false, Value.bool false, Value.bool false, Value.bool false, Value.bool false, Value.bool false,
 Value.bool false, Value.bool false, Value.bool false, Value.bool false, Value.bool false, Value.bool false,
 Value.bool false, Value.bool false, Value.bool false, Value.bool false, Value.bool false, Value.bool false,
 Value.bool false, Value.bool false, Value.bool false, Value.bool false, Value.bool false, Value.bool false,
 Value.bool false, Value.bool false, Value.bool false]
 122)
 n w1 →
 ∀ (n_1 : Nat) (w1_1 : World),
 NewB w1
 (Obj.cells
 #[Value.bool false, Value.bool false, Value.bool false, Value.bool false, Value.bool false, Value.bool false,
 Value.bool false, Value.bool false, Value.bool false, Value.bool false, Value.bool false, Value.bool false,
 Value.bool false, Value.bool false, Value.bool false, Value.bool false, Value.bool false, Value.bool false,
 Value.bool false, Value.bool false, Value.bool false, Value.bool false, Value.bool false, Value.bool false,
 Value.bool false, Value.bool false, Value.bool false, Value.bool false, Value.bool false, Value.bool false,
 Value.bool false, Value.bool false, Value.bool false, Value.bool false, Value.bool false, Value.bool false,
 Value.bool false, Value.bool false, Value.bool false, Value.bool false, Value.bool false, Value.bool false,
 Value.bool false, Value.bool false, Value.bool false, Value.bool false, Value.bool false, Value.bool false,
 Value.bool false, Value.bool false, Value.bool false, Value.bool false, Value.bool false, Value.bool false,
 Value.bool false, Value.bool false, Value.bool false, Value.bool false, Value.bool false, Value.bool false,
 Value.bool false, Value.bool false, Value.bool false, Value.bool false, Value.bool false, Value.bool false,
 Value.bool false, Value.bool false, Value.bool false, Value.bool false, Value.bool false, Value.bool false,
 Value.bool false, Value.bool false, Value.bool false, Value.bool false, Value.bool false, Value.bool false,
 Value.bool false, Value.bool false, Value.bool false, Value.bool false, Value.bool false, Value.bool false,
 Value.bool false, Value.bool false, Value.bool false, Value.bool false, Value.bool false, Value.bool false,
 Value.bool false, Value.bool false, Value.bool false, Value.bool false, Value.bool false, Value.bool false,
 Value.bool false, Value.bool false, Value.bool false, Value.bool false, Value.bool false, Value.bool false,
 Value.bool false, Value.bool false, Value.bool false, Value.bool false, Value.bool false, Value.bool false,
 Value.bool false, Value.bool false, Value.bool false, Value.bool false, Value.bool false, Value.bool false,
 Value.bool false, Value.bool false, Value.bool false, Value.bool false, Value.bool false, Value.bool false,
 Value.bool false, Value.bool false, Value.bool false, Value.bool false, Value.bool false, Value.bool false,
 Value.bool false, Value.bool false, Value.bool false]
 122)
 n_1 w1_1 →
 gimp (decide (IntKind.i64.wrap (at_ + 1) < (↑s.size : Int)))
 (0 ≤ IntKind.i64.wrap (at_ + 1) ∧ IntKind.i64.wrap (at_ + 1) < (↑s.size : Int)) ∧
 ∃ (J : List Value → World → Prop),
 bsp (decide (IntKind.i64.wrap (at_ + 1) < (↑s.size : Int)) && at8 s (IntKind.i64.wrap (at_ + 1)).toNat == 94)
 (J [Value.int IntKind.i64 (IntKind.i64.wrap (IntKind.i64.wrap (at_ + 1) + 1))] w1_1)
 (J [Value.int IntKind.i64 (IntKind.i64.wrap (at_ + 1))] w1_1) ∧
 ∀ (x : Int) (w' : World),
 J [Value.int IntKind.i64 x] w' →
 ∃ (I : List Value → World → Prop),
 ∃ (m : List Value → World → Nat),
 I [Value.int IntKind.i64 x] w' ∧
 ∀ (x_1 : Int) (w' : World),
 I [Value.int IntKind.i64 x_1] w' →
 gimp (decide (x_1 < (↑s.size : Int))) (0 ≤ x_1 ∧ x_1 < (↑s.size : Int)) ∧
 bsp (decide (x_1 < (↑s.size : Int)) && at8 s x_1.toNat != 93)
 ((0 ≤ x_1 ∧ x_1 < (↑s.size : Int)) ∧
 bsp (!charB (at8 s x_1.toNat) || at8 s x_1.toNat == 45 && decide (x_1 > x))
 (∃ (x : Bool),
 ∃ (f : Nat → Bool),
 AtL w' n_1 0
 ([Value.bool x] ++ arrBo f 128 0) ∧
 WrL w' n 0 129 ∧
 ∀ (w1 : World),
 PutB w' n 0
 ([Value.bool x] ++ arrBo f 128 0)
 w1 →
 ∃ (x : Bool),
 ∃ (f : Nat → Bool),
 AtL w1 n 0
 ([Value.bool x] ++ arrBo f 128 0) ∧
 R
 (Ending.returned
 (Value.tuple
 #[Value.agg
 ([Value.bool x] ++ arrBo f 128 0).toArray,
 Value.int IntKind.i64 (-1)]))
 w1)
 (gimp (at8 s x_1.toNat != 45 && decide (IntKind.i64.wrap (x_1 + 1) < (↑s.size : Int)))
 (0 ≤ IntKind.i64.wrap (x_1 + 1) ∧ IntKind.i64.wrap (x_1 + 1) < (↑s.size : Int)) ∧
 bsp
 (at8 s x_1.toNat != 45 && decide (IntKind.i64.wrap (x_1 + 1) < (↑s.size : Int)) &&
 at8 s (IntKind.i64.wrap (x_1 + 1)).toNat == 45)
 (gimp (!(decide (IntKind.i64.wrap (x_1 + 2) ≥ (↑s.size : Int)) || alnumI (at8 s x_1.toNat) == 0))
 (0 ≤ IntKind.i64.wrap (x_1 + 2) ∧ IntKind.i64.wrap (x_1 + 2) < (↑s.size : Int)) ∧
 gimp
 (!(decide (IntKind.i64.wrap (x_1 + 2) ≥ (↑s.size : Int)) || alnumI (at8 s x_1.toNat) == 0 ||
 alnumI (at8 s (IntKind.i64.wrap (x_1 + 2)).toNat) != alnumI (at8 s x_1.toNat)))
 (0 ≤ IntKind.i64.wrap (x_1 + 2) ∧ IntKind.i64.wrap (x_1 + 2) < (↑s.size : Int)) ∧
 bsp
 (decide (IntKind.i64.wrap (x_1 + 2) ≥ (↑s.size : Int)) || alnumI (at8 s x_1.toNat) == 0 ||
 alnumI (at8 s (IntKind.i64.wrap (x_1 + 2)).toNat) != alnumI (at8 s x_1.toNat) ||
 decide (at8 s (IntKind.i64.wrap (x_1 + 2)).toNat < at8 s x_1.toNat))
 (∃ (x : Bool),
 ∃ (f : Nat → Bool),
 AtL w' n_1 0
 ([Value.bool x] ++ arrBo f 128 0) ∧
 WrL w' n 0 129 ∧
 ∀ (w1 : World),
 PutB w' n 0
 ([Value.bool x] ++ arrBo f 128 0)
 w1 →
 ∃ (x : Bool),
 ∃ (f : Nat → Bool),
 AtL w1 n 0
 ([Value.bool x] ++ arrBo f 128 0) ∧
 R
 (Ending.returned
 (Value.tuple
 #[Value.agg
 ([Value.bool x] ++ arrBo f 128 0).toArray,
 Value.int IntKind.i64 (-1)]))
 w1)
 (∃ (I_1 : List Value → World → Prop),
 ∃ (m_1 : List Value → World → Nat),
 I_1 [Value.int IntKind.i64 (IntKind.i64.wrap (at8 s x_1.toNat))] w' ∧
 ∀ (x : Int) (w'_1 : World),
 I_1 [Value.int IntKind.i64 x] w'_1 →
 (0 ≤ IntKind.i64.wrap (x_1 + 2) ∧ IntKind.i64.wrap (x_1 + 2) < (↑s.size : Int)) ∧
 bsp (decide (x ≤ IntKind.i64.wrap (at8 s (IntKind.i64.wrap (x_1 + 2)).toNat)))
 ((0 ≤ x ∧ x < (↑128 : Int)) ∧
 ((∃ (u : Value), w'_1.cell? (Addr.mk n_1 (0 + 1 + x.toNat) none) = some u) ∧
 w'_1.frozen? (Addr.mk n_1 (0 + 1 + x.toNat) none) = false) ∧
 ∀ (w1 : World),
 PutB w'_1 n_1 (0 + 1 + x.toNat) [Value.bool true] w1 →
 I_1 [Value.int IntKind.i64 (IntKind.i64.wrap (x + 1))] w1 ∧
 m_1 [Value.int IntKind.i64 (IntKind.i64.wrap (x + 1))] w1 <
 m_1 [Value.int IntKind.i64 x] w'_1)
 (I [Value.int IntKind.i64 (IntKind.i64.wrap (x_1 + 3))] w'_1 ∧
 m [Value.int IntKind.i64 (IntKind.i64.wrap (x_1 + 3))] w'_1 <
 m [Value.int IntKind.i64 x_1] w')))
 ((0 ≤ at8 s x_1.toNat ∧ at8 s x_1.toNat < (↑128 : Int)) ∧
 ((∃ (u : Value), w'.cell? (Addr.mk n_1 (0 + 1 + (at8 s x_1.toNat).toNat) none) = some u) ∧
 w'.frozen? (Addr.mk n_1 (0 + 1 + (at8 s x_1.toNat).toNat) none) = false) ∧
 ∀ (w1 : World),
 PutB w' n_1 (0 + 1 + (at8 s x_1.toNat).toNat) [Value.bool true] w1 →
 I [Value.int IntKind.i64 (IntKind.i64.wrap (x_1 + 1))] w1 ∧
 m [Value.int IntKind.i64 (IntKind.i64.wrap (x_1 + 1))] w1 < m [Value.int IntKind.i64 x_1] w')))
 (bsp (decide (x_1 ≥ (↑s.size : Int)) || x_1 == x)
 (∃ (x : Bool),
 ∃ (f : Nat → Bool),
 AtL w' n_1 0
 [Value.bool x, Value.bool (f 0), Value.bool (f (0 + 1)), Value.bool (f 2), Value.bool (f 3),
 Value.bool (f 4), Value.bool (f 5), Value.bool (f 6), Value.bool (f 7), Value.bool (f 8),
 Value.bool (f 9), Value.bool (f 10), Value.bool (f 11), Value.bool (f 12), Value.bool (f 13),
 Value.bool (f 14), Value.bool (f 15), Value.bool (f 16), Value.bool (f 17), Value.bool (f 18),
 Value.bool (f 19), Value.bool (f 20), Value.bool (f 21), Value.bool (f 22), Value.bool (f 23),
 Value.bool (f 24), Value.bool (f 25), Value.bool (f 26), Value.bool (f 27), Value.bool (f 28),
 Value.bool (f 29), Value.bool (f 30), Value.bool (f 31), Value.bool (f 32), Value.bool (f 33),
 Value.bool (f 34), Value.bool (f 35), Value.bool (f 36), Value.bool (f 37), Value.bool (f 38),
 Value.bool (f 39), Value.bool (f 40), Value.bool (f 41), Value.bool (f 42), Value.bool (f 43),
 Value.bool (f 44), Value.bool (f 45), Value.bool (f 46), Value.bool (f 47), Value.bool (f 48),
 Value.bool (f 49), Value.bool (f 50), Value.bool (f 51), Value.bool (f 52), Value.bool (f 53),
 Value.bool (f 54), Value.bool (f 55), Value.bool (f 56), Value.bool (f 57), Value.bool (f 58),
 Value.bool (f 59), Value.bool (f 60), Value.bool (f 61), Value.bool (f 62), Value.bool (f 63),
 Value.bool (f 64), Value.bool (f 65), Value.bool (f 66), Value.bool (f 67), Value.bool (f 68),
 Value.bool (f 69), Value.bool (f 70), Value.bool (f 71), Value.bool (f 72), Value.bool (f 73),
 Value.bool (f 74), Value.bool (f 75), Value.bool (f 76), Value.bool (f 77), Value.bool (f 78),
 Value.bool (f 79), Value.bool (f 80), Value.bool (f 81), Value.bool (f 82), Value.bool (f 83),
 Value.bool (f 84), Value.bool (f 85), Value.bool (f 86), Value.bool (f 87), Value.bool (f 88),
 Value.bool (f 89), Value.bool (f 90), Value.bool (f 91), Value.bool (f 92), Value.bool (f 93),
 Value.bool (f 94), Value.bool (f 95), Value.bool (f 96), Value.bool (f 97), Value.bool (f 98),
 Value.bool (f 99), Value.bool (f 100), Value.bool (f 101), Value.bool (f 102), Value.bool (f 103),
 Value.bool (f 104), Value.bool (f 105), Value.bool (f 106), Value.bool (f 107),
 Value.bool (f 108), Value.bool (f 109), Value.bool (f 110), Value.bool (f 111),
 Value.bool (f 112), Value.bool (f 113), Value.bool (f 114), Value.bool (f 115),
 Value.bool (f 116), Value.bool (f 117), Value.bool (f 118), Value.bool (f 119),
 Value.bool (f 120), Value.bool (f 121), Value.bool (f 122), Value.bool (f 123),
 Value.bool (f 124), Value.bool (f 125), Value.bool (f 126), Value.bool (f 127)] ∧
 WrL w' n 0 129 ∧
 ∀ (w1 : World),
 PutB w' n 0
 [Value.bool x, Value.bool (f 0), Value.bool (f (0 + 1)), Value.bool (f 2), Value.bool (f 3),
 Value.bool (f 4), Value.bool (f 5), Value.bool (f 6), Value.bool (f 7), Value.bool (f 8),
 Value.bool (f 9), Value.bool (f 10), Value.bool (f 11), Value.bool (f 12), Value.bool (f 13),
 Value.bool (f 14), Value.bool (f 15), Value.bool (f 16), Value.bool (f 17), Value.bool (f 18),
 Value.bool (f 19), Value.bool (f 20), Value.bool (f 21), Value.bool (f 22), Value.bool (f 23),
 Value.bool (f 24), Value.bool (f 25), Value.bool (f 26), Value.bool (f 27), Value.bool (f 28),
 Value.bool (f 29), Value.bool (f 30), Value.bool (f 31), Value.bool (f 32), Value.bool (f 33),
 Value.bool (f 34), Value.bool (f 35), Value.bool (f 36), Value.bool (f 37), Value.bool (f 38),
 Value.bool (f 39), Value.bool (f 40), Value.bool (f 41), Value.bool (f 42), Value.bool (f 43),
 Value.bool (f 44), Value.bool (f 45), Value.bool (f 46), Value.bool (f 47), Value.bool (f 48),
 Value.bool (f 49), Value.bool (f 50), Value.bool (f 51), Value.bool (f 52), Value.bool (f 53),
 Value.bool (f 54), Value.bool (f 55), Value.bool (f 56), Value.bool (f 57), Value.bool (f 58),
 Value.bool (f 59), Value.bool (f 60), Value.bool (f 61), Value.bool (f 62), Value.bool (f 63),
 Value.bool (f 64), Value.bool (f 65), Value.bool (f 66), Value.bool (f 67), Value.bool (f 68),
 Value.bool (f 69), Value.bool (f 70), Value.bool (f 71), Value.bool (f 72), Value.bool (f 73),
 Value.bool (f 74), Value.bool (f 75), Value.bool (f 76), Value.bool (f 77), Value.bool (f 78),
 Value.bool (f 79), Value.bool (f 80), Value.bool (f 81), Value.bool (f 82), Value.bool (f 83),
 Value.bool (f 84), Value.bool (f 85), Value.bool (f 86), Value.bool (f 87), Value.bool (f 88),
 Value.bool (f 89), Value.bool (f 90), Value.bool (f 91), Value.bool (f 92), Value.bool (f 93),
 Value.bool (f 94), Value.bool (f 95), Value.bool (f 96), Value.bool (f 97), Value.bool (f 98),
 Value.bool (f 99), Value.bool (f 100), Value.bool (f 101), Value.bool (f 102),
 Value.bool (f 103), Value.bool (f 104), Value.bool (f 105), Value.bool (f 106),
 Value.bool (f 107), Value.bool (f 108), Value.bool (f 109), Value.bool (f 110),
 Value.bool (f 111), Value.bool (f 112), Value.bool (f 113), Value.bool (f 114),
 Value.bool (f 115), Value.bool (f 116), Value.bool (f 117), Value.bool (f 118),
 Value.bool (f 119), Value.bool (f 120), Value.bool (f 121), Value.bool (f 122),
 Value.bool (f 123), Value.bool (f 124), Value.bool (f 125), Value.bool (f 126),
 Value.bool (f 127)]
 w1 →
 ∃ (x : Bool),
 ∃ (f : Nat → Bool),
 AtL w1 n 0
 [Value.bool x, Value.bool (f 0), Value.bool (f (0 + 1)), Value.bool (f 2), Value.bool (f 3),
 Value.bool (f 4), Value.bool (f 5), Value.bool (f 6), Value.bool (f 7), Value.bool (f 8),
 Value.bool (f 9), Value.bool (f 10), Value.bool (f 11), Value.bool (f 12),
 Value.bool (f 13), Value.bool (f 14), Value.bool (f 15), Value.bool (f 16),
 Value.bool (f 17), Value.bool (f 18), Value.bool (f 19), Value.bool (f 20),
 Value.bool (f 21), Value.bool (f 22), Value.bool (f 23), Value.bool (f 24),
 Value.bool (f 25), Value.bool (f 26), Value.bool (f 27), Value.bool (f 28),
 Value.bool (f 29), Value.bool (f 30), Value.bool (f 31), Value.bool (f 32),
 Value.bool (f 33), Value.bool (f 34), Value.bool (f 35), Value.bool (f 36),
 Value.bool (f 37), Value.bool (f 38), Value.bool (f 39), Value.bool (f 40),
 Value.bool (f 41), Value.bool (f 42), Value.bool (f 43), Value.bool (f 44),
 Value.bool (f 45), Value.bool (f 46), Value.bool (f 47), Value.bool (f 48),
 Value.bool (f 49), Value.bool (f 50), Value.bool (f 51), Value.bool (f 52),
 Value.bool (f 53), Value.bool (f 54), Value.bool (f 55), Value.bool (f 56),
 Value.bool (f 57), Value.bool (f 58), Value.bool (f 59), Value.bool (f 60),
 Value.bool (f 61), Value.bool (f 62), Value.bool (f 63), Value.bool (f 64),
 Value.bool (f 65), Value.bool (f 66), Value.bool (f 67), Value.bool (f 68),
 Value.bool (f 69), Value.bool (f 70), Value.bool (f 71), Value.bool (f 72),
 Value.bool (f 73), Value.bool (f 74), Value.bool (f 75), Value.bool (f 76),
 Value.bool (f 77), Value.bool (f 78), Value.bool (f 79), Value.bool (f 80),
 Value.bool (f 81), Value.bool (f 82), Value.bool (f 83), Value.bool (f 84),
 Value.bool (f 85), Value.bool (f 86), Value.bool (f 87), Value.bool (f 88),
 Value.bool (f 89), Value.bool (f 90), Value.bool (f 91), Value.bool (f 92),
 Value.bool (f 93), Value.bool (f 94), Value.bool (f 95), Value.bool (f 96),
 Value.bool (f 97), Value.bool (f 98), Value.bool (f 99), Value.bool (f 100),
 Value.bool (f 101), Value.bool (f 102), Value.bool (f 103), Value.bool (f 104),
 Value.bool (f 105), Value.bool (f 106), Value.bool (f 107), Value.bool (f 108),
 Value.bool (f 109), Value.bool (f 110), Value.bool (f 111), Value.bool (f 112),
 Value.bool (f 113), Value.bool (f 114), Value.bool (f 115), Value.bool (f 116),
 Value.bool (f 117), Value.bool (f 118), Value.bool (f 119), Value.bool (f 120),
 Value.bool (f 121), Value.bool (f 122), Value.bool (f 123), Value.bool (f 124),
 Value.bool (f 125), Value.bool (f 126), Value.bool (f 127)] ∧
 R
 (Ending.returned
 (Value.tuple
 #[Value.agg
 #[Value.bool x, Value.bool (f 0), Value.bool (f (0 + 1)), Value.bool (f 2),
 Value.bool (f 3), Value.bool (f 4), Value.bool (f 5), Value.bool (f 6),
 Value.bool (f 7), Value.bool (f 8), Value.bool (f 9), Value.bool (f 10),
 Value.bool (f 11), Value.bool (f 12), Value.bool (f 13), Value.bool (f 14),
 Value.bool (f 15), Value.bool (f 16), Value.bool (f 17), Value.bool (f 18),
 Value.bool (f 19), Value.bool (f 20), Value.bool (f 21), Value.bool (f 22),
 Value.bool (f 23), Value.bool (f 24), Value.bool (f 25), Value.bool (f 26),
 Value.bool (f 27), Value.bool (f 28), Value.bool (f 29), Value.bool (f 30),
 Value.bool (f 31), Value.bool (f 32), Value.bool (f 33), Value.bool (f 34),
 Value.bool (f 35), Value.bool (f 36), Value.bool (f 37), Value.bool (f 38),
 Value.bool (f 39), Value.bool (f 40), Value.bool (f 41), Value.bool (f 42),
 Value.bool (f 43), Value.bool (f 44), Value.bool (f 45), Value.bool (f 46),
 Value.bool (f 47), Value.bool (f 48), Value.bool (f 49), Value.bool (f 50),
 Value.bool (f 51), Value.bool (f 52), Value.bool (f 53), Value.bool (f 54),
 Value.bool (f 55), Value.bool (f 56), Value.bool (f 57), Value.bool (f 58),
 Value.bool (f 59), Value.bool (f 60), Value.bool (f 61), Value.bool (f 62),
 Value.bool (f 63), Value.bool (f 64), Value.bool (f 65), Value.bool (f 66),
 Value.bool (f 67), Value.bool (f 68), Value.bool (f 69), Value.bool (f 70),
 Value.bool (f 71), Value.bool (f 72), Value.bool (f 73), Value.bool (f 74),
 Value.bool (f 75), Value.bool (f 76), Value.bool (f 77), Value.bool (f 78),
 Value.bool (f 79), Value.bool (f 80), Value.bool (f 81), Value.bool (f 82),
 Value.bool (f 83), Value.bool (f 84), Value.bool (f 85), Value.bool (f 86),
 Value.bool (f 87), Value.bool (f 88), Value.bool (f 89), Value.bool (f 90),
 Value.bool (f 91), Value.bool (f 92), Value.bool (f 93), Value.bool (f 94),
 Value.bool (f 95), Value.bool (f 96), Value.bool (f 97), Value.bool (f 98),
 Value.bool (f 99), Value.bool (f 100), Value.bool (f 101), Value.bool (f 102),
 Value.bool (f 103), Value.bool (f 104), Value.bool (f 105), Value.bool (f 106),
 Value.bool (f 107), Value.bool (f 108), Value.bool (f 109), Value.bool (f 110),
 Value.bool (f 111), Value.bool (f 112), Value.bool (f 113), Value.bool (f 114),
 Value.bool (f 115), Value.bool (f 116), Value.bool (f 117), Value.bool (f 118),
 Value.bool (f 119), Value.bool (f 120), Value.bool (f 121), Value.bool (f 122),
 Value.bool (f 123), Value.bool (f 124), Value.bool (f 125), Value.bool (f 126),
 Value.bool (f 127)],
 Value.int IntKind.i64 (-1)]))
 w1)
 (∃ (J : List Value → World → Prop),
 bsp
 (decide (IntKind.i64.wrap (at_ + 1) < (↑s.size : Int)) &&
 at8 s (IntKind.i64.wrap (at_ + 1)).toNat == 94)
 (∃ (I : List Value → World → Prop),
 ∃ (m : List Value → World → Nat),
 I [Value.int IntKind.i64 0] w' ∧
 ∀ (x : Int) (w' : World),
 I [Value.int IntKind.i64 x] w' →
 bsp (decide (x < 128))
 (gimp (charB (IntKind.u8.wrap x)) (0 ≤ x ∧ x < (↑128 : Int)) ∧
 ∃ (x_2 : Bool),
 gimp (charB (IntKind.u8.wrap x))
 (w'.cell? (Addr.mk n_1 (0 + 1 + x.toNat) none) = some (Value.bool x_2)) ∧
 (0 ≤ x ∧ x < (↑128 : Int)) ∧
 ((∃ (u : Value), w'.cell? (Addr.mk n_1 (0 + 1 + x.toNat) none) = some u) ∧
 w'.frozen? (Addr.mk n_1 (0 + 1 + x.toNat) none) = false) ∧
 ∀ (w1 : World),
 PutB w' n_1 (0 + 1 + x.toNat) [Value.bool (charB (IntKind.u8.wrap x) && !x_2)] w1 →
 I [Value.int IntKind.i64 (IntKind.i64.wrap (x + 1))] w1 ∧
 m [Value.int IntKind.i64 (IntKind.i64.wrap (x + 1))] w1 <
 m [Value.int IntKind.i64 x] w')
 (J [] w'))
 (J [] w') ∧
 ∀ (w' : World),
 J [] w' →
 ∃ (x : Bool),
 ∃ (f : Nat → Bool),
 AtL w' n_1 0
 [Value.bool x, Value.bool (f 0), Value.bool (f (0 + 1)), Value.bool (f 2), Value.bool (f 3),
 Value.bool (f 4), Value.bool (f 5), Value.bool (f 6), Value.bool (f 7), Value.bool (f 8),
 Value.bool (f 9), Value.bool (f 10), Value.bool (f 11), Value.bool (f 12), Value.bool (f 13),
 Value.bool (f 14), Value.bool (f 15), Value.bool (f 16), Value.bool (f 17), Value.bool (f 18),
 Value.bool (f 19), Value.bool (f 20), Value.bool (f 21), Value.bool (f 22), Value.bool (f 23),
 Value.bool (f 24), Value.bool (f 25), Value.bool (f 26), Value.bool (f 27), Value.bool (f 28),
 Value.bool (f 29), Value.bool (f 30), Value.bool (f 31), Value.bool (f 32), Value.bool (f 33),
 Value.bool (f 34), Value.bool (f 35), Value.bool (f 36), Value.bool (f 37), Value.bool (f 38),
 Value.bool (f 39), Value.bool (f 40), Value.bool (f 41), Value.bool (f 42), Value.bool (f 43),
 Value.bool (f 44), Value.bool (f 45), Value.bool (f 46), Value.bool (f 47), Value.bool (f 48),
 Value.bool (f 49), Value.bool (f 50), Value.bool (f 51), Value.bool (f 52), Value.bool (f 53),
 Value.bool (f 54), Value.bool (f 55), Value.bool (f 56), Value.bool (f 57), Value.bool (f 58),
 Value.bool (f 59), Value.bool (f 60), Value.bool (f 61), Value.bool (f 62), Value.bool (f 63),
 Value.bool (f 64), Value.bool (f 65), Value.bool (f 66), Value.bool (f 67), Value.bool (f 68),
 Value.bool (f 69), Value.bool (f 70), Value.bool (f 71), Value.bool (f 72), Value.bool (f 73),
 Value.bool (f 74), Value.bool (f 75), Value.bool (f 76), Value.bool (f 77), Value.bool (f 78),
 Value.bool (f 79), Value.bool (f 80), Value.bool (f 81), Value.bool (f 82), Value.bool (f 83),
 Value.bool (f 84), Value.bool (f 85), Value.bool (f 86), Value.bool (f 87), Value.bool (f 88),
 Value.bool (f 89), Value.bool (f 90), Value.bool (f 91), Value.bool (f 92), Value.bool (f 93),
 Value.bool (f 94), Value.bool (f 95), Value.bool (f 96), Value.bool (f 97), Value.bool (f 98),
 Value.bool (f 99), Value.bool (f 100), Value.bool (f 101), Value.bool (f 102),
 Value.bool (f 103), Value.bool (f 104), Value.bool (f 105), Value.bool (f 106),
 Value.bool (f 107), Value.bool (f 108), Value.bool (f 109), Value.bool (f 110),
 Value.bool (f 111), Value.bool (f 112), Value.bool (f 113), Value.bool (f 114),
 Value.bool (f 115), Value.bool (f 116), Value.bool (f 117), Value.bool (f 118),
 Value.bool (f 119), Value.bool (f 120), Value.bool (f 121), Value.bool (f 122),
 Value.bool (f 123), Value.bool (f 124), Value.bool (f 125), Value.bool (f 126),
 Value.bool (f 127)] ∧
 WrL w' n 0 129 ∧
 ∀ (w1 : World),
 PutB w' n 0
 [Value.bool x, Value.bool (f 0), Value.bool (f (0 + 1)), Value.bool (f 2), Value.bool (f 3),
 Value.bool (f 4), Value.bool (f 5), Value.bool (f 6), Value.bool (f 7), Value.bool (f 8),
 Value.bool (f 9), Value.bool (f 10), Value.bool (f 11), Value.bool (f 12),
 Value.bool (f 13), Value.bool (f 14), Value.bool (f 15), Value.bool (f 16),
 Value.bool (f 17), Value.bool (f 18), Value.bool (f 19), Value.bool (f 20),
 Value.bool (f 21), Value.bool (f 22), Value.bool (f 23), Value.bool (f 24),
 Value.bool (f 25), Value.bool (f 26), Value.bool (f 27), Value.bool (f 28),
 Value.bool (f 29), Value.bool (f 30), Value.bool (f 31), Value.bool (f 32),
 Value.bool (f 33), Value.bool (f 34), Value.bool (f 35), Value.bool (f 36),
 Value.bool (f 37), Value.bool (f 38), Value.bool (f 39), Value.bool (f 40),
 Value.bool (f 41), Value.bool (f 42), Value.bool (f 43), Value.bool (f 44),
 Value.bool (f 45), Value.bool (f 46), Value.bool (f 47), Value.bool (f 48),
 Value.bool (f 49), Value.bool (f 50), Value.bool (f 51), Value.bool (f 52),
 Value.bool (f 53), Value.bool (f 54), Value.bool (f 55), Value.bool (f 56),
 Value.bool (f 57), Value.bool (f 58), Value.bool (f 59), Value.bool (f 60),
 Value.bool (f 61), Value.bool (f 62), Value.bool (f 63), Value.bool (f 64),
 Value.bool (f 65), Value.bool (f 66), Value.bool (f 67), Value.bool (f 68),
 Value.bool (f 69), Value.bool (f 70), Value.bool (f 71), Value.bool (f 72),
 Value.bool (f 73), Value.bool (f 74), Value.bool (f 75), Value.bool (f 76),
 Value.bool (f 77), Value.bool (f 78), Value.bool (f 79), Value.bool (f 80),
 Value.bool (f 81), Value.bool (f 82), Value.bool (f 83), Value.bool (f 84),
 Value.bool (f 85), Value.bool (f 86), Value.bool (f 87), Value.bool (f 88),
 Value.bool (f 89), Value.bool (f 90), Value.bool (f 91), Value.bool (f 92),
 Value.bool (f 93), Value.bool (f 94), Value.bool (f 95), Value.bool (f 96),
 Value.bool (f 97), Value.bool (f 98), Value.bool (f 99), Value.bool (f 100),
 Value.bool (f 101), Value.bool (f 102), Value.bool (f 103), Value.bool (f 104),
 Value.bool (f 105), Value.bool (f 106), Value.bool (f 107), Value.bool (f 108),
 Value.bool (f 109), Value.bool (f 110), Value.bool (f 111), Value.bool (f 112),
 Value.bool (f 113), Value.bool (f 114), Value.bool (f 115), Value.bool (f 116),
 Value.bool (f 117), Value.bool (f 118), Value.bool (f 119), Value.bool (f 120),
 Value.bool (f 121), Value.bool (f 122), Value.bool (f 123), Value.bool (f 124),
 Value.bool (f 125), Value.bool (f 126), Value.bool (f 127)]
 w1 →
 ∃ (x : Bool),
 ∃ (f : Nat → Bool),
 AtL w1 n 0
 [Value.bool x, Value.bool (f 0), Value.bool (f (0 + 1)), Value.bool (f 2),
 Value.bool (f 3), Value.bool (f 4), Value.bool (f 5), Value.bool (f 6),
 Value.bool (f 7), Value.bool (f 8), Value.bool (f 9), Value.bool (f 10),
 Value.bool (f 11), Value.bool (f 12), Value.bool (f 13), Value.bool (f 14),
 Value.bool (f 15), Value.bool (f 16), Value.bool (f 17), Value.bool (f 18),
 Value.bool (f 19), Value.bool (f 20), Value.bool (f 21), Value.bool (f 22),
 Value.bool (f 23), Value.bool (f 24), Value.bool (f 25), Value.bool (f 26),
 Value.bool (f 27), Value.bool (f 28), Value.bool (f 29), Value.bool (f 30),
 Value.bool (f 31), Value.bool (f 32), Value.bool (f 33), Value.bool (f 34),
 Value.bool (f 35), Value.bool (f 36), Value.bool (f 37), Value.bool (f 38),
 Value.bool (f 39), Value.bool (f 40), Value.bool (f 41), Value.bool (f 42),
 Value.bool (f 43), Value.bool (f 44), Value.bool (f 45), Value.bool (f 46),
 Value.bool (f 47), Value.bool (f 48), Value.bool (f 49), Value.bool (f 50),
 Value.bool (f 51), Value.bool (f 52), Value.bool (f 53), Value.bool (f 54),
 Value.bool (f 55), Value.bool (f 56), Value.bool (f 57), Value.bool (f 58),
 Value.bool (f 59), Value.bool (f 60), Value.bool (f 61), Value.bool (f 62),
 Value.bool (f 63), Value.bool (f 64), Value.bool (f 65), Value.bool (f 66),
 Value.bool (f 67), Value.bool (f 68), Value.bool (f 69), Value.bool (f 70),
 Value.bool (f 71), Value.bool (f 72), Value.bool (f 73), Value.bool (f 74),
 Value.bool (f 75), Value.bool (f 76), Value.bool (f 77), Value.bool (f 78),
 Value.bool (f 79), Value.bool (f 80), Value.bool (f 81), Value.bool (f 82),
 Value.bool (f 83), Value.bool (f 84), Value.bool (f 85), Value.bool (f 86),
 Value.bool (f 87), Value.bool (f 88), Value.bool (f 89), Value.bool (f 90),
 Value.bool (f 91), Value.bool (f 92), Value.bool (f 93), Value.bool (f 94),
 Value.bool (f 95), Value.bool (f 96), Value.bool (f 97), Value.bool (f 98),
 Value.bool (f 99), Value.bool (f 100), Value.bool (f 101), Value.bool (f 102),
 Value.bool (f 103), Value.bool (f 104), Value.bool (f 105), Value.bool (f 106),
 Value.bool (f 107), Value.bool (f 108), Value.bool (f 109), Value.bool (f 110),
 Value.bool (f 111), Value.bool (f 112), Value.bool (f 113), Value.bool (f 114),
 Value.bool (f 115), Value.bool (f 116), Value.bool (f 117), Value.bool (f 118),
 Value.bool (f 119), Value.bool (f 120), Value.bool (f 121), Value.bool (f 122),
 Value.bool (f 123), Value.bool (f 124), Value.bool (f 125), Value.bool (f 126),
 Value.bool (f 127)] ∧
 R
 (Ending.returned
 (Value.tuple
 #[Value.agg
 #[Value.bool x, Value.bool (f 0), Value.bool (f (0 + 1)), Value.bool (f 2),
 Value.bool (f 3), Value.bool (f 4), Value.bool (f 5), Value.bool (f 6),
 Value.bool (f 7), Value.bool (f 8), Value.bool (f 9), Value.bool (f 10),
 Value.bool (f 11), Value.bool (f 12), Value.bool (f 13), Value.bool (f 14),
 Value.bool (f 15), Value.bool (f 16), Value.bool (f 17), Value.bool (f 18),
 Value.bool (f 19), Value.bool (f 20), Value.bool (f 21), Value.bool (f 22),
 Value.bool (f 23), Value.bool (f 24), Value.bool (f 25), Value.bool (f 26),
 Value.bool (f 27), Value.bool (f 28), Value.bool (f 29), Value.bool (f 30),
 Value.bool (f 31), Value.bool (f 32), Value.bool (f 33), Value.bool (f 34),
 Value.bool (f 35), Value.bool (f 36), Value.bool (f 37), Value.bool (f 38),
 Value.bool (f 39), Value.bool (f 40), Value.bool (f 41), Value.bool (f 42),
 Value.bool (f 43), Value.bool (f 44), Value.bool (f 45), Value.bool (f 46),
 Value.bool (f 47), Value.bool (f 48), Value.bool (f 49), Value.bool (f 50),
 Value.bool (f 51), Value.bool (f 52), Value.bool (f 53), Value.bool (f 54),
 Value.bool (f 55), Value.bool (f 56), Value.bool (f 57), Value.bool (f 58),
 Value.bool (f 59), Value.bool (f 60), Value.bool (f 61), Value.bool (f 62),
 Value.bool (f 63), Value.bool (f 64), Value.bool (f 65), Value.bool (f 66),
 Value.bool (f 67), Value.bool (f 68), Value.bool (f 69), Value.bool (f 70),
 Value.bool (f 71), Value.bool (f 72), Value.bool (f 73), Value.bool (f 74),
 Value.bool (f 75), Value.bool (f 76), Value.bool (f 77), Value.bool (f 78),
 Value.bool (f 79), Value.bool (f 80), Value.bool (f 81), Value.bool (f 82),
 Value.bool (f 83), Value.bool (f 84), Value.bool (f 85), Value.bool (f 86),
 Value.bool (f 87), Value.bool (f 88), Value.bool (f 89), Value.bool (f 90),
 Value.bool (f 91), Value.bool (f 92), Value.bool (f 93), Value.bool (f 94),
 Value.bool (f 95), Value.bool (f 96), Value.bool (f 97), Value.bool (f 98),
 Value.bool (f 99), Value.bool (f 100), Value.bool (f 101), Value.bool (f 102),
 Value.bool (f 103), Value.bool (f 104), Value.bool (f 105), Value.bool (f 106),
 Value.bool (f 107), Value.bool (f 108), Value.bool (f 109), Value.bool (f 110),
 Value.bool (f 111), Value.bool (f 112), Value.bool (f 113), Value.bool (f 114),
 Value.bool (f 115), Value.bool (f 116), Value.bool (f 117), Value.bool (f 118),
 Value.bool (f 119), Value.bool (f 120), Value.bool (f 121), Value.bool (f 122),
 Value.bool (f 123), Value.bool (f 124), Value.bool (f 125), Value.bool (f 126),
 Value.bool (f 127)],
 Value.int IntKind.i64 (IntKind.i64.wrap (x_1 + 1))]))
 w1))
theorem vc_rclass (s : ByteArray) (at_ : Int) (w : World) (R : Ending → World → Prop) (h : VC_rclass s at_ w R) : Calls Try.prog 65 ([Value.string
    s,
  Value.int IntKind.i64 at_] : List Value).toArray w R := by
  have e : execR { P := Try.prog, loops := [(7, [(7, Ck.int IntKind.i64)]), (15, [(11, Ck.int IntKind.i64)]), (25, [(12, Ck.int IntKind.i64)])], pur := pur1, tails := [], joins := [(6, [(7, Ck.int IntKind.i64)]), (28, [])], boxes := [] } Try.f65.results.toList R (Try.f65.body.getD .skip) (initF [Value.string
    s,
  Value.int IntKind.i64
    at_] (Try.f65.ntmps - ([Value.string s,
  Value.int IntKind.i64 at_] : List Value).length)) w = VC_rclass s at_ w R := by kernel_rfl
  have hb : Try.f65.body = some (Try.f65.body.getD .skip) := by kernel_rfl
  exact calls_of_exec' (P := Try.prog) (fn := Try.f65) (c := Try.f65.body.getD .skip) (args := [Value.string s,
  Value.int IntKind.i64 at_]) (w := w) (R := R) pur1_ok Try.func65 hb e h

end Go.Proofs.Ytmjanmffnblcoaa
