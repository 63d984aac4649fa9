/- The contract of the reference's class: it agrees with the program's parseClass. The text has at most 2^20 bytes. -/
import Derived.Test.YtcpjajjocmpkjaaDoorRplain
import Derived.Test.YtcpjajjocmpkjaaDoorVcRefC
namespace Go.Proofs.YtcpjajjocmpkjaaDoor
open Go.RowKit

theorem arrBo_length (f : Nat → Bool) : ∀ n i, (arrBo f n i).length = n
  | 0, _ => rfl
  | n + 1, i => by simp [arrBo, arrBo_length f n]
theorem arrBo_get (f : Nat → Bool) : ∀ (n i j : Nat), j < n → (arrBo f n i)[j]? = some (.bool (f (i + j)))
  | 0, _, j, h => by omega
  | n + 1, i, 0, _ => by simp [arrBo]
  | n + 1, i, j + 1, h => by
    simp only [arrBo, List.getElem?_cons_succ]
    rw [arrBo_get f n (i + 1) j (by omega)]
    congr 3; omega
theorem arrBo_none (f : Nat → Bool) (n i j : Nat) (h : n ≤ j) : (arrBo f n i)[j]? = none := List.getElem?_eq_none (by rw [arrBo_length]; exact h)
theorem arrBo_congr {f g : Nat → Bool} {n i : Nat} (h : ∀ j, j < n → f (i + j) = g (i + j)) : arrBo f n i = arrBo g n i := by
  apply List.ext_getElem?
  intro j
  rcases Nat.lt_or_ge j n with hj | hj
  · rw [arrBo_get f n i j hj, arrBo_get g n i j hj, h j hj]
  · rw [arrBo_none f n i j hj, arrBo_none g n i j hj]
theorem arrBo_set (f : Nat → Bool) (n k : Nat) (b : Bool) : (arrBo f n 0).set k (.bool b) = arrBo (fun j => if j = k then b else f j) n 0 := by
  apply List.ext_getElem?
  intro j
  rcases Nat.lt_or_ge j n with hj | hj
  · rw [List.getElem?_set, arrBo_length, arrBo_get _ n 0 j hj, arrBo_get _ n 0 j hj, Nat.zero_add]
    by_cases e : k = j
    · subst e; rw [if_pos rfl, if_pos hj, if_pos rfl]
    · rw [if_neg e, if_neg (fun h => e h.symm)]
  · rw [arrBo_none _ n 0 j hj, List.getElem?_eq_none (by rw [List.length_set, arrBo_length]; exact hj)]
/-- The cells of an element of the reference. -/
def reL (b : Bool) (f : Nat → Bool) : List Value := [Value.bool b] ++ arrBo f 128 0
theorem reL_length (b : Bool) (f : Nat → Bool) : (reL b f).length = 129 := by unfold reL; simp [arrBo_length]
def SetB (w : World) (n : Nat) (b : Bool) (f : Nat → Bool) : Prop := w.heap[n]? = some (.cells (reL b f).toArray 150 (0, 0))
theorem SetB.kp {M : Nat → Prop} {w w' : World} {n : Nat} {b : Bool} {f : Nat → Bool} (h : SetB w n b f) (hk : Kp M w w') (hm : ¬ M n) : SetB w' n b f := hk.blk h hm
theorem SetB.congr {w : World} {n : Nat} {b : Bool} {f g : Nat → Bool} (h : SetB w n b f) (e : ∀ c, c < 128 → f c = g c) : SetB w n b g := by
  unfold SetB at h ⊢
  rw [h]
  unfold reL
  rw [arrBo_congr (f := f) (g := g) (fun j hj => by rw [Nat.zero_add]; exact e j hj)]
theorem SetB.at_ {w : World} {n : Nat} {b : Bool} {f : Nat → Bool} (h : SetB w n b f) : AtL w n 0 ([Value.bool b] ++ arrBo f 128 0) := by
  refine AtL_block h ?_
  simp [reL]
theorem SetB.cell {w : World} {n : Nat} {b : Bool} {f : Nat → Bool} (h : SetB w n b f) {k : Nat} (hk : k < 128) : w.cell? ⟨n, 0 + 1 + k, none⟩ = some (.bool (f k)) := by
  refine cell_at h ?_
  rw [show 0 + 1 + k = k + 1 by omega]
  simp [reL, arrBo_get f 128 0 k hk]
theorem SetB.wr {w : World} {n : Nat} {b : Bool} {f : Nat → Bool} (h : SetB w n b f) {k : Nat} (hk : k < 128) : (∃ u, w.cell? ⟨n, 0 + 1 + k, none⟩ = some u) ∧ w.frozen? ⟨n, 0 + 1 + k, none⟩ = false := ⟨⟨_, h.cell hk⟩, frozen_block h _⟩
theorem SetB.wrl {w : World} {n : Nat} {b : Bool} {f : Nat → Bool} (h : SetB w n b f) : WrL w n 0 129 := WrL_block h (by simp [reL_length])
theorem SetB.put {w w1 : World} {n : Nat} {b : Bool} {f : Nat → Bool} (h : SetB w n b f) {k : Nat} {v : Bool} (hp : PutB w n (0 + 1 + k) [.bool v] w1) : SetB w1 n b (fun j => if j = k then v else f j) := by
  have := hp.block h
  unfold SetB
  rw [this]
  congr 2
  rw [show 0 + 1 + k = k + 1 by omega]
  simp only [putL, reL, List.cons_append, List.nil_append, List.set_cons_succ, arrBo_set]
theorem SetB.full {w w1 : World} {n : Nat} {b b' : Bool} {f f' : Nat → Bool} (h : SetB w n b f) (hp : PutB w n 0 ([Value.bool b'] ++ arrBo f' 128 0) w1) : SetB w1 n b' f' := hp.full h (by simp [reL, arrBo_length])
theorem setB_new {w w1 : World} {n : Nat} {cs : Array Value} (hc : cs = (reL false (fun _ => false)).toArray) (h : NewB w (.cells cs 150) n w1) : SetB w1 n false (fun _ => false) := by
  subst hc; exact h.block

theorem hasPrefix_cons2 (a b : UInt8) (r : List UInt8) : Lib.hasPrefix (a :: b :: r) [91, 94] = (a == 91 && b == 94) := by
  rw [Bool.eq_iff_iff]
  simp [Lib.hasPrefix, List.isPrefixOf]
  constructor <;> (rintro ⟨rfl, rfl⟩; exact ⟨rfl, rfl⟩)
theorem negB_eq {t : ByteArray} (h0 : 0 < t.size) (h : at8 t 0 = 91) : negB t = (decide (1 < t.size) && at8 t 1 == 94) := by
  unfold negB
  have g0 := at8_byte h0
  rw [h] at g0
  have hl : t.data.toList.length = t.size := t.data.length_toList
  cases hd : t.data.toList with
  | nil => rw [hd] at hl; simp at hl; omega
  | cons a r =>
    rw [hd] at g0 hl
    simp at g0
    subst g0
    cases r with
    | nil =>
      have : ¬ 1 < t.size := by simp at hl; omega
      simp [this, Lib.hasPrefix]
    | cons b r =>
      have h1 : 1 < t.size := by simp at hl; omega
      have g1 := at8_byte h1
      rw [hd] at g1
      simp at g1
      rw [hasPrefix_cons2, g1]
      have := byte_inj (c := 94) (d := at8 t 1) (by omega) (at8_bd t 1)
      have e : ((94 : Int).toNat.toUInt8) = (94 : UInt8) := rfl
      rw [e] at this
      rw [this]
      simp [h1, Bool.beq_eq_decide_eq]
theorem items_stop {u : ByteArray} {f j : Nat} {p : Int → Bool} (h1 : rngB u j = false) (h2 : singB u j = false) : itemsS u f j p = (p, j) := by
  cases f with
  | zero => rfl
  | succ f => unfold itemsS; simp [h1, h2]
theorem cls0 {t : ByteArray} {j : Nat} (h : (listS t).2 = j) (h' : j = 0 ∨ fromN t + j = t.size ∨ at8 t (fromN t + j) ≠ 93) : clsN t = 0 := by
  unfold clsN
  rw [h, if_pos h']
theorem alB_char {c : Int} (h : alB c = true) : charB c = true := by simp [alB] at h; simp [charB]; rcases h with h | h <;> simp [h]
theorem not_alB {c : Int} (h : c = 45 ∨ c = 93) : alB c = false := by rcases h with rfl | rfl <;> decide
theorem alnum_zero {c : Int} : (alnumI c == 0) = !alB c := by
  unfold alnumI alB
  cases lowerB c <;> cases digitB c <;> simp
theorem alnum_bad {c l : Int} (hc : alB c = true) : (alnumI l != alnumI c || decide (l < c)) = badB c l := by
  unfold badB
  have : (alnumI l != alnumI c) = (lowerB c != lowerB l || digitB c != digitB l) := by
    unfold alnumI
    have hx : ∀ x : Int, ¬ (lowerB x = true ∧ digitB x = true) := fun x ⟨h1, h2⟩ => by simp [lowerB] at h1; simp [digitB] at h2; omega
    have h1 := hx c
    have h2 := hx l
    unfold alB at hc
    cases hlc : lowerB c <;> cases hdc : digitB c <;> cases hll : lowerB l <;> cases hdl : digitB l <;> simp_all
  rw [this]
  cases decide (l < c) <;> simp
theorem alB_mid {c l d : Int} (hc : alB c = true) (hb : badB c l = false) (h1 : c ≤ d) (h2 : d ≤ l) : charB d = true := by
  simp [badB] at hb
  obtain ⟨⟨_, h3⟩, h4⟩ := hb
  simp [alB] at hc
  rcases hc with hc | hc
  · rw [hc] at h3
    simp [lowerB] at hc h3
    simp [charB, lowerB]
    omega
  · rw [hc] at h4
    simp [digitB] at hc h4
    simp [charB, lowerB, digitB]
    omega
theorem sing_char {u : ByteArray} {j : Nat} (h : charB (at8 u j) = true) (h' : ¬ (at8 u j = 45 ∧ 0 < j)) : singB u j = true := by
  unfold singB
  simp [charB] at h
  simp [alB]
  grind
theorem sing_not {u : ByteArray} {j : Nat} (h : charB (at8 u j) = false ∨ (at8 u j = 45 ∧ 0 < j)) : singB u j = false ∧ rngB u j = false := by
  have hal : alB (at8 u j) = false := by
    rcases h with h | h
    · cases ha : alB (at8 u j) with
      | false => rfl
      | true => rw [alB_char ha] at h; cases h
    · exact not_alB (.inl h.1)
  refine ⟨?_, by unfold rngB; rw [hal]; rfl⟩
  unfold singB
  rw [hal]
  rcases h with h | h
  · simp [charB] at h
    simp
    omega
  · rw [h.1]
    simp
    omega
theorem hasB_filter (q : UInt8 → Bool) (c : Int) (h0 : 0 ≤ c) (h1 : c ≤ 255) : hasB ⟨(nameBytes.data.toList.filter q).toArray⟩ c = (charB c && q c.toNat.toUInt8) := by
  rw [← name_char c h0 h1]
  unfold hasB
  simp only
  rw [Bool.eq_iff_iff]
  simp only [List.contains_iff_mem, Bool.and_eq_true, List.mem_filter]

set_option maxHeartbeats 1000000 in
set_option maxRecDepth 100000 in
theorem rclass_any (s : ByteArray) (k : Nat) (w : World) (hk : k < s.size) (h91 : at8 s k = 91) (hs : s.size ≤ 1048576) :
    Calls Tryd.prog 72 #[.string s, .int .i64 k] w fun e w' => K0 w w' ∧
      ((clsN (s.extract k s.size) = 0 ∧ ∃ b f, e = .returned (.tuple #[.agg (reL b f).toArray, .int .i64 (-1)])) ∨
       (clsN (s.extract k s.size) ≠ 0 ∧ ∃ f, e = .returned (.tuple #[.agg (reL false f).toArray, .int .i64 (k + clsN (s.extract k s.size) : Nat)]) ∧ RelE (.cls (clsS (s.extract k s.size))) ⟨false, f⟩)) := by
  generalize ht : s.extract k s.size = t
  have tsz : t.size = s.size - k := by rw [← ht, ByteArray.size_extract]; omega
  have tat : ∀ j, j < t.size → at8 t j = at8 s (k + j) := fun j hj => by rw [← ht]; exact at8_extract s k s.size j (by omega) (Nat.le_refl _)
  have t0 : at8 t 0 = 91 := by rw [tat 0 (by omega)]; exact h91
  have hneg := negB_eq (t := t) (by omega) t0
  refine vc_rclass s k w _ ?_
  intro n w1 hn n1 w2 hn1
  have b1 : SetB w2 n false (fun _ => false) := (setB_new (by kernel_rfl) hn).kp (hn1.kp (fun _ => False)) (fun h => h)
  have b2 : SetB w2 n1 false (fun _ => false) := setB_new (by kernel_rfl) hn1
  have hne : n ≠ n1 := by have := hn.size; have := hn1.hn; omega
  have g1 : w.heap.size ≤ n := hn.ge
  have g2 : w.heap.size ≤ n1 := by have := hn.size; have := hn1.hn; omega
  have k2 : K0 w w2 := (hn.kp _).trans (hn1.kp _)
  rw [wr64 (x := (k : Int) + 1) (by omega) (by omega), wr64 (x := (k : Int) + 1 + 1) (by omega) (by omega)]
  have e1 : ((k : Int) + 1).toNat = k + 1 := by omega
  rw [e1]
  -- the sign of the class
  have hsg : (decide ((k : Int) + 1 < (s.size : Int)) && at8 s (k + 1) == 94) = negB t := by
    rw [hneg]
    by_cases h : 1 < t.size
    · rw [tat 1 h]
      have h1 : decide ((k : Int) + 1 < (s.size : Int)) = true := by simp; omega
      rw [h1]
      simp [h]
    · have h1 : decide ((k : Int) + 1 < (s.size : Int)) = false := by simp; omega
      rw [h1]
      simp [h]
  rw [hsg]
  refine ⟨gimp_intro fun h => ⟨by omega, by simpa using h⟩, fun vs w' => vs = [.int .i64 ((k + fromN t : Nat) : Int)] ∧ w' = w2, ?_, ?_⟩
  · refine bsp_intro (fun h => ⟨?_, rfl⟩) (fun h => ⟨?_, rfl⟩)
    · unfold fromN; rw [if_pos h]; congr 2
    · unfold fromN; rw [if_neg (by rw [h]; decide)]; congr 2
  rintro x w' ⟨hx, rfl⟩
  have hx : x = ((k + fromN t : Nat) : Int) := by simpa using hx
  subst hx
  have hfrom : fromN t ≤ t.size := by
    unfold fromN
    split
    · rename_i h; exact hasPrefix_size h
    · omega
  have hfrom1 : 1 ≤ fromN t := by unfold fromN; split <;> omega
  generalize hu : restB t = u
  have usz : u.size = t.size - fromN t := by rw [← hu]; unfold restB; rw [ByteArray.size_extract]; omega
  have uat : ∀ j, j < u.size → at8 u j = at8 s (k + fromN t + j) := fun j hj => by
    rw [← hu]; unfold restB
    rw [at8_extract t _ _ j (by omega) (Nat.le_refl _), tat _ (by omega), Nat.add_assoc]
  have utat : ∀ j, j < u.size → at8 t (fromN t + j) = at8 u j := fun j hj => by rw [uat j hj, tat _ (by omega), Nat.add_assoc]
  have hL : listS t = itemsS u u.size 0 (fun _ => false) := by unfold listS; rw [hu]
  generalize hfr : fromN t = fr at *
  have bad : ∀ (wx : World) (f : Nat → Bool), SetB wx n1 false f → SetB wx n false (fun _ => false) → K0 w wx → clsN t = 0 →
      ∃ (x : Bool) (f : Nat → Bool), AtL wx n1 0 ([Value.bool x] ++ arrBo f 128 0) ∧ WrL wx n 0 129 ∧ ∀ (w1 : World), PutB wx n 0 ([Value.bool x] ++ arrBo f 128 0) w1 →
        ∃ (x : Bool) (f : Nat → Bool), AtL w1 n 0 ([Value.bool x] ++ arrBo f 128 0) ∧ (K0 w w1 ∧ ((clsN t = 0 ∧ ∃ b g, Ending.returned (.tuple #[.agg ([Value.bool x] ++ arrBo f 128 0).toArray, .int .i64 (-1)]) = .returned (.tuple #[.agg (reL b g).toArray, .int .i64 (-1)])) ∨
          (clsN t ≠ 0 ∧ ∃ g, Ending.returned (.tuple #[.agg ([Value.bool x] ++ arrBo f 128 0).toArray, .int .i64 (-1)]) = .returned (.tuple #[.agg (reL false g).toArray, .int .i64 (k + clsN t : Nat)]) ∧ RelE (.cls (clsS t)) ⟨false, g⟩))) := fun wx f h1 h2 hkx h0 =>
    ⟨false, f, h1.at_, h2.wrl, fun wy hp => ⟨false, f, (h2.full hp).at_, hkx.fresh hp.kp (fun i hi e => by omega), .inl ⟨h0, false, f, rfl⟩⟩⟩
  refine ⟨fun vs wx => ∃ (j fl : Nat) (f : Nat → Bool) (p : Int → Bool), vs = [.int .i64 ((k + fr + j : Nat) : Int)] ∧ j ≤ u.size ∧ u.size - j ≤ fl ∧ itemsS u fl j p = listS t ∧ SetB wx n1 false f ∧ SetB wx n false (fun _ => false) ∧ (∀ c : Nat, c < 128 → f c = p c) ∧ (∀ c, p c = true → charB c = true) ∧ K0 w wx,
    fun vs _ => (match vs with | .int _ x :: _ => s.size + 4 - x.toNat | _ => 0), ⟨0, u.size, _, (fun _ => false), rfl, by omega, by omega, hL.symm, b2, b1, (fun _ _ => rfl), (fun _ h => by cases h), k2⟩, ?_⟩
  rintro x wx ⟨j, fl, f, p, hv, hj, hfl, hS, hb, hb0, hfp, hpc, hkx⟩
  have hv : x = ((k + fr + j : Nat) : Int) := by simpa using hv
  subst hv
  have hsz : s.size = k + fr + u.size := by omega
  have ej : (((k + fr + j : Nat) : Int)).toNat = k + fr + j := Int.toNat_natCast _
  rw [ej]
  refine ⟨gimp_intro fun h => ⟨by omega, by simpa using h⟩, bsp_intro (fun h => ?_) (fun h => ?_)⟩
  · have hlt : j < u.size := by simp at h; omega
    have h93 : at8 s (k + fr + j) ≠ 93 := by simp at h; exact h.2
    rw [← uat j hlt] at h93 ⊢
    obtain ⟨fl, rfl⟩ : ∃ g, fl = g + 1 := ⟨fl - 1, by omega⟩
    refine ⟨⟨by omega, by omega⟩, bsp_intro (fun hc => ?_) (fun hc => ?_)⟩
    · refine bad wx f hb hb0 hkx ?_
      have hc : charB (at8 u j) = false ∨ (at8 u j = 45 ∧ 0 < j) := by
        simp only [Bool.or_eq_true, Bool.not_eq_true', Bool.and_eq_true, beq_iff_eq, decide_eq_true_eq] at hc
        rcases hc with h | h
        · exact .inl h
        · exact .inr ⟨h.1, by omega⟩
      obtain ⟨q1, q2⟩ := sing_not hc
      rw [items_stop q2 q1] at hS
      refine cls0 (j := j) (by rw [← hS]) (.inr (.inr ?_))
      rw [hfr, utat j hlt]; exact h93
    have hch : charB (at8 u j) = true := by
      cases hx : charB (at8 u j) with
      | true => rfl
      | false => rw [hx] at hc; simp at hc
    have hd : ¬ (at8 u j = 45 ∧ 0 < j) := fun hx => by
      rw [hch] at hc
      simp only [Bool.not_true, Bool.false_or, Bool.and_eq_false_iff, beq_eq_false_iff_ne, decide_eq_false_iff_not] at hc
      rcases hc with h | h
      · exact h hx.1
      · exact h (by omega)
    have hsing := sing_char hch hd
    rw [wr64 (x := ((k + fr + j : Nat) : Int) + 1) (by omega) (by omega), wr64 (x := ((k + fr + j : Nat) : Int) + 2) (by omega) (by omega), wr64 (x := ((k + fr + j : Nat) : Int) + 3) (by omega) (by omega)]
    have ej1 : (((k + fr + j : Nat) : Int) + 1).toNat = k + fr + (j + 1) := by omega
    have ej2 : (((k + fr + j : Nat) : Int) + 2).toNat = k + fr + (j + 2) := by omega
    rw [ej1, ej2]
    refine ⟨gimp_intro fun h => ⟨by omega, by simp at h; omega⟩, bsp_intro (fun hr => ?_) (fun hr => ?_)⟩
    · simp only [Bool.and_eq_true, bne_iff_ne, ne_eq, decide_eq_true_eq, beq_iff_eq] at hr
      obtain ⟨⟨hn45, hlt1⟩, h45⟩ := hr
      have hlt1 : j + 1 < u.size := by omega
      rw [← uat (j + 1) hlt1] at h45
      refine ⟨gimp_intro fun h => ⟨by omega, by simp at h; omega⟩, gimp_intro fun h => ⟨by omega, by simp at h; omega⟩, bsp_intro (fun hbd => ?_) (fun hbd => ?_)⟩
      · refine bad wx f hb hb0 hkx ?_
        by_cases hrn : rngB u j = true
        · have hrn' := hrn
          simp only [rngB, Bool.and_eq_true, decide_eq_true_eq, beq_iff_eq] at hrn
          have hbb : badB (at8 u j) (at8 u (j + 2)) = true := by
            have h2 : decide (((k + fr + j : Nat) : Int) + 2 ≥ (s.size : Int)) = false := by simp; omega
            rw [h2, alnum_zero, hrn.1.1, ← uat (j + 2) hrn.1.2] at hbd
            rw [← alnum_bad hrn.1.1]
            simpa using hbd
          have : itemsS u (fl + 1) j p = (p, j) := by unfold itemsS; rw [if_pos hlt, if_pos hrn', if_pos hbb]
          rw [this] at hS
          refine cls0 (j := j) (by rw [← hS]) (.inr (.inr ?_))
          rw [hfr, utat j hlt]; exact h93
        · have hst : itemsS u (fl + 1) j p = (fun d => p d || decide (d = at8 u j), j + 1) := by
            unfold itemsS
            rw [if_pos hlt, if_neg hrn, if_pos hsing]
            obtain ⟨q1, q2⟩ := sing_not (u := u) (j := j + 1) (.inr ⟨h45, by omega⟩)
            exact items_stop q2 q1
          rw [hst] at hS
          refine cls0 (j := j + 1) (by rw [← hS]) (.inr (.inr ?_))
          rw [hfr, utat (j + 1) hlt1, h45]; decide
      · -- a range
        have hlt2 : j + 2 < u.size := by simp at hbd; omega
        rw [← uat (j + 2) hlt2] at hbd ⊢
        have h2 : decide (((k + fr + j : Nat) : Int) + 2 ≥ (s.size : Int)) = false := by simp; omega
        rw [h2, alnum_zero] at hbd
        have hal : alB (at8 u j) = true := by
          cases hx : alB (at8 u j) with
          | true => rfl
          | false => rw [hx] at hbd; simp at hbd
        rw [hal] at hbd
        have hbb : badB (at8 u j) (at8 u (j + 2)) = false := by rw [← alnum_bad hal]; simpa using hbd
        obtain ⟨hle, hall⟩ := badB_not hbb hal
        have hcb := alB_bd hal
        have hlb := alB_bd hall
        have hrn : rngB u j = true := by simp [rngB, hal, hlt2, h45]
        have hst : itemsS u (fl + 1) j p = itemsS u fl (j + 3) (fun d => p d || (decide (at8 u j ≤ d) && decide (d ≤ at8 u (j + 2)))) := by
          conv => lhs; unfold itemsS
          rw [if_pos hlt, if_pos hrn, if_neg (by rw [hbb]; decide)]
        have hmid := fun d (h1 : at8 u j ≤ d) (h2 : d ≤ at8 u (j + 2)) => alB_mid hal hbb h1 h2
        generalize at8 u j = c at *
        generalize at8 u (j + 2) = l at *
        rw [wr64 (x := c) (by omega) (by omega), wr64 (x := l) (by omega) (by omega)]
        refine ⟨fun vs wy => ∃ m : Nat, vs = [.int .i64 (c + m)] ∧ c + m ≤ l + 1 ∧ SetB wy n1 false (fun d => f d || (decide (c ≤ (d : Int)) && decide ((d : Int) < c + m))) ∧ SetB wy n false (fun _ => false) ∧ K0 w wy,
          fun vs _ => (match vs with | .int _ x :: _ => (l + 2 - x).toNat | _ => 0), ⟨0, by simp, by omega, hb.congr (fun d _ => by
            have : (decide (c ≤ (d : Int)) && decide ((d : Int) < c + (0 : Nat))) = false := by simp
            rw [this, Bool.or_false]), hb0, hkx⟩, ?_⟩
        rintro x wy ⟨m, hv, hm, hby, hby0, hky⟩
        have hv : x = c + m := by simpa using hv
        subst hv
        refine ⟨⟨by omega, by omega⟩, bsp_intro (fun hxl => ?_) (fun hxl => ?_)⟩
        · have hxl : c + (m : Int) ≤ l := by simpa using hxl
          have hlt128 : (c + (m : Int)).toNat < 128 := by omega
          refine ⟨⟨by omega, by omega⟩, hby.wr hlt128, fun wz hp => ⟨⟨m + 1, ?_, by omega, (hby.put hp).congr (fun d _ => ?_), hby0.kp hp.kp (fun e => hne e), hky.fresh hp.kp (fun i hi e => by omega)⟩, ?_⟩⟩
          · rw [wr64 (by omega) (by omega)]; congr 2; omega
          · show (if d = (c + (m : Int)).toNat then true else (f d || (decide (c ≤ (d : Int)) && decide ((d : Int) < c + m)))) = (f d || (decide (c ≤ (d : Int)) && decide ((d : Int) < c + ((m + 1 : Nat) : Int))))
            by_cases e : d = (c + (m : Int)).toNat
            · rw [if_pos e]
              have : (decide (c ≤ (d : Int)) && decide ((d : Int) < c + ((m + 1 : Nat) : Int))) = true := by simp; omega
              rw [this]; simp
            · rw [if_neg e]
              have : decide ((d : Int) < c + (m : Int)) = decide ((d : Int) < c + ((m + 1 : Nat) : Int)) := by
                rw [decide_eq_decide]; omega
              rw [this]
          · rw [wr64 (by omega) (by omega)]
            simp only
            omega
        · have hxl : ¬ c + (m : Int) ≤ l := by simpa using hxl
          have hml : c + (m : Int) = l + 1 := by omega
          refine ⟨⟨j + 3, fl, _, _, ?_, by omega, by omega, hst.symm.trans hS, hby, hby0, fun d hd => ?_, fun d hd => ?_, hky⟩, ?_⟩
          · congr 2
          · show (f d || (decide (c ≤ (d : Int)) && decide ((d : Int) < c + m))) = (p d || (decide (c ≤ (d : Int)) && decide ((d : Int) ≤ l)))
            rw [hfp d hd, hml]
            have : decide ((d : Int) < l + 1) = decide ((d : Int) ≤ l) := by rw [decide_eq_decide]; omega
            rw [this]
          · simp only [Bool.or_eq_true, Bool.and_eq_true, decide_eq_true_eq] at hd
            rcases hd with hd | hd
            · exact hpc d hd
            · exact hmid d hd.1 hd.2
          · simp only; omega
    · -- a single character
      have hrn : ¬ rngB u j = true := fun hrn => by
        simp only [rngB, Bool.and_eq_true, decide_eq_true_eq, beq_iff_eq] at hrn
        have h1 : decide (((k + fr + j : Nat) : Int) + 1 < (s.size : Int)) = true := by simp; omega
        rw [h1, ← uat (j + 1) (by omega), hrn.2] at hr
        have h45 : at8 u j = 45 := by simpa using hr
        have := hrn.1.1
        rw [h45] at this
        revert this; decide
      have hst : itemsS u (fl + 1) j p = itemsS u fl (j + 1) (fun d => p d || decide (d = at8 u j)) := by
        conv => lhs; unfold itemsS
        rw [if_pos hlt, if_neg hrn, if_pos hsing]
      have hcb := charB_lt hch
      generalize at8 u j = c at *
      have hlt128 : c.toNat < 128 := by omega
      refine ⟨⟨by omega, by omega⟩, hb.wr hlt128, fun wz hp => ⟨⟨j + 1, fl, _, _, by congr 2, by omega, by omega, hst.symm.trans hS, hb.put hp, hb0.kp hp.kp (fun e => hne e), fun d hd => ?_, fun d hd => ?_, hkx.fresh hp.kp (fun i hi e => by omega)⟩, ?_⟩⟩
      · show (if d = c.toNat then true else f d) = (p d || decide ((d : Int) = c))
        by_cases e : d = c.toNat
        · rw [if_pos e]
          have : decide ((d : Int) = c) = true := by simp; omega
          rw [this]; simp
        · rw [if_neg e, hfp d hd]
          have : decide ((d : Int) = c) = false := by simp; omega
          rw [this]; simp
      · simp only [Bool.or_eq_true, decide_eq_true_eq] at hd
        rcases hd with hd | hd
        · exact hpc d hd
        · rw [hd]; exact hch
      · simp only; omega
  · -- the end of the items
    have hend : u.size ≤ j ∨ (j < u.size ∧ at8 u j = 93) := by
      rcases Nat.lt_or_ge j u.size with hlt | hge
      · right
        refine ⟨hlt, ?_⟩
        have h1 : decide (((k + fr + j : Nat) : Int) < (s.size : Int)) = true := by simp; omega
        rw [h1, ← uat j hlt] at h
        simpa using h
      · exact .inl hge
    have hstop : listS t = (p, j) := by
      rw [← hS]
      rcases hend with he | ⟨hlt, h93⟩
      · cases fl with
        | zero => rfl
        | succ fl => unfold itemsS; rw [if_neg (by omega)]
      · have h1 : charB (at8 u j) = false := by rw [h93]; decide
        obtain ⟨q1, q2⟩ := sing_not (.inl h1)
        exact items_stop q2 q1
    refine bsp_intro (fun hb1 => bad wx f hb hb0 hkx ?_) (fun hb1 => ?_)
    · refine cls0 (j := j) (by rw [hstop]) ?_
      simp only [Bool.or_eq_true, decide_eq_true_eq, beq_iff_eq] at hb1
      rw [hfr]
      rcases hb1 with h1 | h1
      · exact .inr (.inl (by omega))
      · exact .inl (by omega)
    simp only [Bool.or_eq_false_iff, decide_eq_false_iff_not, beq_eq_false_iff_ne] at hb1
    obtain ⟨hb1, hb2⟩ := hb1
    have hlt : j < u.size := by omega
    have h93 : at8 u j = 93 := by
      rcases hend with he | he
      · omega
      · exact he.2
    have hcn : clsN t = fr + j + 1 := by
      unfold clsN
      rw [hstop, hfr]
      simp only
      rw [if_neg]
      rintro (h1 | h1 | h1)
      · exact hb2 (by omega)
      · omega
      · rw [utat j hlt] at h1; exact h1 h93
    have hcs : clsS t = ⟨(nameBytes.data.toList.filter fun b => !(p b.toNat == negB t)).toArray⟩ := by
      unfold clsS
      rw [if_neg (by omega), hstop]
    have fin : ∀ (wy : World) (g : Nat → Bool), (∀ c : Nat, c < 128 → g c = (charB c && !(p c == negB t))) → SetB wy n1 false g → SetB wy n false (fun _ => false) → K0 w wy →
        ∃ (x : Bool) (f : Nat → Bool), AtL wy n1 0 ([Value.bool x] ++ arrBo f 128 0) ∧ WrL wy n 0 129 ∧ ∀ (w1 : World), PutB wy n 0 ([Value.bool x] ++ arrBo f 128 0) w1 →
          ∃ (x : Bool) (f : Nat → Bool), AtL w1 n 0 ([Value.bool x] ++ arrBo f 128 0) ∧ (K0 w w1 ∧ ((clsN t = 0 ∧ ∃ b h, Ending.returned (.tuple #[.agg ([Value.bool x] ++ arrBo f 128 0).toArray, .int .i64 (IntKind.i64.wrap (((k + fr + j : Nat) : Int) + 1))]) = .returned (.tuple #[.agg (reL b h).toArray, .int .i64 (-1)])) ∨
            (clsN t ≠ 0 ∧ ∃ h, Ending.returned (.tuple #[.agg ([Value.bool x] ++ arrBo f 128 0).toArray, .int .i64 (IntKind.i64.wrap (((k + fr + j : Nat) : Int) + 1))]) = .returned (.tuple #[.agg (reL false h).toArray, .int .i64 (k + clsN t : Nat)]) ∧ RelE (.cls (clsS t)) ⟨false, h⟩))) := fun wy g hg h1 h2 hky => by
      refine ⟨false, g, h1.at_, h2.wrl, fun wz hp => ⟨false, g, (h2.full hp).at_, hky.fresh hp.kp (fun i hi e => by omega), .inr ⟨by omega, g, ?_, rfl, fun _ c hc => ?_, fun c h0 h1 hh => ?_⟩⟩⟩
      · rw [wr64 (by omega) (by omega), hcn, show ((k + fr + j : Nat) : Int) + 1 = ((k + (fr + j + 1) : Nat) : Int) by omega]
        rfl
      · show hasB (clsS t) c = g c
        rw [hcs, hasB_filter _ c (by omega) (by omega), hg c hc]
        congr 3
        rw [show ((c : Int).toNat.toUInt8.toNat : Int) = (c : Int) by rw [Int.toNat_natCast, UInt8.toNat_ofNat']; omega]
      · have hh : hasB (clsS t) c = true := hh
        rw [hcs, hasB_filter _ c h0 h1] at hh
        simp only [Bool.and_eq_true] at hh
        exact hh.1
    refine ⟨fun vs wy => ∃ g : Nat → Bool, vs = [] ∧ (∀ c : Nat, c < 128 → g c = (charB c && !(p c == negB t))) ∧ SetB wy n1 false g ∧ SetB wy n false (fun _ => false) ∧ K0 w wy, ?_, fun wy ⟨g, _, h1, h2, h3, h4⟩ => fin wy g h1 h2 h3 h4⟩
    refine bsp_intro (fun hng => ?_) (fun hng => ⟨f, rfl, fun c hc => ?_, hb, hb0, hkx⟩)
    · rw [hng]
      refine ⟨fun vs wy => ∃ m : Nat, vs = [.int .i64 m] ∧ m ≤ 128 ∧ SetB wy n1 false (fun d => if d < m then charB d && !f d else f d) ∧ SetB wy n false (fun _ => false) ∧ K0 w wy, fun vs _ => (match vs with | .int _ x :: _ => 128 - x.toNat | _ => 0),
        ⟨0, rfl, by omega, hb.congr (fun d _ => by simp), hb0, hkx⟩, ?_⟩
      rintro x wy ⟨m, hv, hm, hby, hby0, hky⟩
      have hv : x = (m : Int) := by simpa using hv
      subst hv
      refine bsp_intro (fun hlt => ?_) (fun hge => ?_)
      · have hlt : m < 128 := by simp at hlt; omega
        have eu : IntKind.u8.wrap (m : Int) = (m : Int) := IntWalk.u8_in m ⟨by omega, by omega⟩
        rw [eu, Int.toNat_natCast]
        refine ⟨gimp_intro fun _ => ⟨by omega, by omega⟩, f m, gimp_intro fun _ => ?_, ⟨by omega, by omega⟩, hby.wr hlt, fun wz hp => ⟨⟨m + 1, ?_, by omega, (hby.put hp).congr (fun d _ => ?_), hby0.kp hp.kp (fun e => hne e), hky.fresh hp.kp (fun i hi e => by omega)⟩, ?_⟩⟩
        · have := hby.cell hlt
          rw [this]
          simp
        · rw [wr64 (by omega) (by omega)]; rfl
        · show (if d = m then (charB m && !f m) else (if d < m then charB d && !f d else f d)) = (if d < m + 1 then charB d && !f d else f d)
          by_cases e : d = m
          · subst e; simp
          · rw [if_neg e]
            by_cases e2 : d < m
            · rw [if_pos e2, if_pos (by omega)]
            · rw [if_neg e2, if_neg (by omega)]
        · rw [wr64 (by omega) (by omega)]
          simp only
          omega
      · have hge : ¬ m < 128 := by simp at hge; omega
        refine ⟨_, rfl, fun c hc => ?_, hby, hby0, hky⟩
        show (if c < m then charB c && !f c else f c) = _
        rw [if_pos (by omega), hfp c hc]
        simp
    · rw [hng, hfp c hc]
      cases hp : p c with
      | false => simp
      | true => rw [hpc c hp]; simp

end Go.Proofs.YtcpjajjocmpkjaaDoor
