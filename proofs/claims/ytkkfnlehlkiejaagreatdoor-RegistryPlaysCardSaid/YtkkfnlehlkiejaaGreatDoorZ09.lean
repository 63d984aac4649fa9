/- The contract of the reference's class: it agrees with the program's parseClass. The text has at most 2^20 bytes. -/
import Derived.Test.YtkkfnlehlkiejaaGreatDoorZ08
import Derived.Test.YtkkfnlehlkiejaaGreatDoorProg
import Derived.Test.YtkkfnlehlkiejaaGreatDoorZ02
import Derived.Test.YtkkfnlehlkiejaaGreatDoorZ03
import Derived.KernelRfl
import Derived.Test.YtkkfnlehlkiejaaGreatDoorZ05
namespace Go.Proofs.YtkkfnlehlkiejaaGreatDoor
open Go.RowKit

theorem arrBo_length (f : Nat → Bool) : ∀ n i, (arrBo f n i).length = n
  | 0, _ => rfl
  | n + 1, i => by simp [arrBo, arrBo_length f n]
theorem arrBo_get (f : Nat → Bool) : ∀ (n i j : Nat), j < n → (arrBo f n i)[j]? = some (.bool (f (i + j)))
  | 0, _, j, h => by omega
  | n + 1, i, 0, _ => by simp [arrBo]
  | n + 1, i, j + 1, h => by
    simp only [arrBo, List.getElem?_cons_succ]
    rw [arrBo_get f n (i + 1) j (by omega)]
    congr 3; omega
theorem arrBo_none (f : Nat → Bool) (n i j : Nat) (h : n ≤ j) : (arrBo f n i)[j]? = none := List.getElem?_eq_none (by rw [arrBo_length]; exact h)
theorem arrBo_congr {f g : Nat → Bool} {n i : Nat} (h : ∀ j, j < n → f (i + j) = g (i + j)) : arrBo f n i = arrBo g n i := by
  apply List.ext_getElem?
  intro j
  rcases Nat.lt_or_ge j n with hj | hj
  · rw [arrBo_get f n i j hj, arrBo_get g n i j hj, h j hj]
  · rw [arrBo_none f n i j hj, arrBo_none g n i j hj]
theorem arrBo_set (f : Nat → Bool) (n k : Nat) (b : Bool) : (arrBo f n 0).set k (.bool b) = arrBo (fun j => if j = k then b else f j) n 0 := by
  apply List.ext_getElem?
  intro j
  rcases Nat.lt_or_ge j n with hj | hj
  · rw [List.getElem?_set, arrBo_length, arrBo_get _ n 0 j hj, arrBo_get _ n 0 j hj, Nat.zero_add]
    by_cases e : k = j
    · subst e; rw [if_pos rfl, if_pos hj, if_pos rfl]
    · rw [if_neg e, if_neg (fun h => e h.symm)]
  · rw [arrBo_none _ n 0 j hj, List.getElem?_eq_none (by rw [List.length_set, arrBo_length]; exact hj)]
/-- The cells of an element of the reference. -/
def reL (b : Bool) (f : Nat → Bool) : List Value := [Value.bool b] ++ arrBo f 128 0
theorem reL_length (b : Bool) (f : Nat → Bool) : (reL b f).length = 129 := by unfold reL; simp [arrBo_length]
def SetB (w : World) (n : Nat) (b : Bool) (f : Nat → Bool) : Prop := w.heap[n]? = some (.cells (reL b f).toArray 160 (0, 0))
theorem SetB.kp {M : Nat → Prop} {w w' : World} {n : Nat} {b : Bool} {f : Nat → Bool} (h : SetB w n b f) (hk : Kp M w w') (hm : ¬ M n) : SetB w' n b f := hk.blk h hm
theorem SetB.congr {w : World} {n : Nat} {b : Bool} {f g : Nat → Bool} (h : SetB w n b f) (e : ∀ c, c < 128 → f c = g c) : SetB w n b g := by
  unfold SetB at h ⊢
  rw [h]
  unfold reL
  rw [arrBo_congr (f := f) (g := g) (fun j hj => by rw [Nat.zero_add]; exact e j hj)]
theorem SetB.at_ {w : World} {n : Nat} {b : Bool} {f : Nat → Bool} (h : SetB w n b f) : AtL w n 0 ([Value.bool b] ++ arrBo f 128 0) := by
  refine AtL_block h ?_
  simp [reL]
theorem SetB.cell {w : World} {n : Nat} {b : Bool} {f : Nat → Bool} (h : SetB w n b f) {k : Nat} (hk : k < 128) : w.cell? ⟨n, 0 + 1 + k, none⟩ = some (.bool (f k)) := by
  refine cell_at h ?_
  rw [show 0 + 1 + k = k + 1 by omega]
  simp [reL, arrBo_get f 128 0 k hk]
theorem SetB.wr {w : World} {n : Nat} {b : Bool} {f : Nat → Bool} (h : SetB w n b f) {k : Nat} (hk : k < 128) : (∃ u, w.cell? ⟨n, 0 + 1 + k, none⟩ = some u) ∧ w.frozen? ⟨n, 0 + 1 + k, none⟩ = false := ⟨⟨_, h.cell hk⟩, frozen_block h _⟩
theorem SetB.wrl {w : World} {n : Nat} {b : Bool} {f : Nat → Bool} (h : SetB w n b f) : WrL w n 0 129 := WrL_block h (by simp [reL_length])
theorem SetB.put {w w1 : World} {n : Nat} {b : Bool} {f : Nat → Bool} (h : SetB w n b f) {k : Nat} {v : Bool} (hp : PutB w n (0 + 1 + k) [.bool v] w1) : SetB w1 n b (fun j => if j = k then v else f j) := by
  have := hp.block h
  unfold SetB
  rw [this]
  congr 2
  rw [show 0 + 1 + k = k + 1 by omega]
  simp only [putL, reL, List.cons_append, List.nil_append, List.set_cons_succ, arrBo_set]
theorem SetB.full {w w1 : World} {n : Nat} {b b' : Bool} {f f' : Nat → Bool} (h : SetB w n b f) (hp : PutB w n 0 ([Value.bool b'] ++ arrBo f' 128 0) w1) : SetB w1 n b' f' := hp.full h (by simp [reL, arrBo_length])
theorem setB_new {w w1 : World} {n : Nat} {cs : Array Value} (hc : cs = (reL false (fun _ => false)).toArray) (h : NewB w (.cells cs 160) n w1) : SetB w1 n false (fun _ => false) := by
  subst hc; exact h.block

theorem hasPrefix_cons2 (a b : UInt8) (r : List UInt8) : Lib.hasPrefix (a :: b :: r) [91, 94] = (a == 91 && b == 94) := by
  rw [Bool.eq_iff_iff]
  simp [Lib.hasPrefix, List.isPrefixOf]
  constructor <;> (rintro ⟨rfl, rfl⟩; exact ⟨rfl, rfl⟩)
theorem negB_eq {t : ByteArray} (h0 : 0 < t.size) (h : at8 t 0 = 91) : negB t = (decide (1 < t.size) && at8 t 1 == 94) := by
  unfold negB
  have g0 := at8_byte h0
  rw [h] at g0
  have hl : t.data.toList.length = t.size := t.data.length_toList
  cases hd : t.data.toList with
  | nil => rw [hd] at hl; simp at hl; omega
  | cons a r =>
    rw [hd] at g0 hl
    simp at g0
    subst g0
    cases r with
    | nil =>
      have : ¬ 1 < t.size := by simp at hl; omega
      simp [this, Lib.hasPrefix]
    | cons b r =>
      have h1 : 1 < t.size := by simp at hl; omega
      have g1 := at8_byte h1
      rw [hd] at g1
      simp at g1
      rw [hasPrefix_cons2, g1]
      have := byte_inj (c := 94) (d := at8 t 1) (by omega) (at8_bd t 1)
      have e : ((94 : Int).toNat.toUInt8) = (94 : UInt8) := rfl
      rw [e] at this
      rw [this]
      simp [h1, Bool.beq_eq_decide_eq]
theorem items_stop {u : ByteArray} {f j : Nat} {p : Int → Bool} (h1 : rngB u j = false) (h2 : singB u j = false) : itemsS u f j p = (p, j) := by
  cases f with
  | zero => rfl
  | succ f => unfold itemsS; simp [h1, h2]
theorem cls0 {t : ByteArray} {j : Nat} (h : (listS t).2 = j) (h' : j = 0 ∨ fromN t + j = t.size ∨ at8 t (fromN t + j) ≠ 93) : clsN t = 0 := by
  unfold clsN
  rw [h, if_pos h']
theorem alB_char {c : Int} (h : alB c = true) : charB c = true := by simp [alB] at h; simp [charB]; rcases h with h | h <;> simp [h]
theorem not_alB {c : Int} (h : c = 45 ∨ c = 93) : alB c = false := by rcases h with rfl | rfl <;> decide
theorem alnum_zero {c : Int} : (alnumI c == 0) = !alB c := by
  unfold alnumI alB
  cases lowerB c <;> cases digitB c <;> simp
theorem alnum_bad {c l : Int} (hc : alB c = true) : (alnumI l != alnumI c || decide (l < c)) = badB c l := by
  unfold badB
  have : (alnumI l != alnumI c) = (lowerB c != lowerB l || digitB c != digitB l) := by
    unfold alnumI
    have hx : ∀ x : Int, ¬ (lowerB x = true ∧ digitB x = true) := fun x ⟨h1, h2⟩ => by simp [lowerB] at h1; simp [digitB] at h2; omega
    have h1 := hx c
    have h2 := hx l
    unfold alB at hc
    cases hlc : lowerB c <;> cases hdc : digitB c <;> cases hll : lowerB l <;> cases hdl : digitB l <;> simp_all
  rw [this]
  cases decide (l < c) <;> simp
theorem alB_mid {c l d : Int} (hc : alB c = true) (hb : badB c l = false) (h1 : c ≤ d) (h2 : d ≤ l) : charB d = true := by
  simp [badB] at hb
  obtain ⟨⟨_, h3⟩, h4⟩ := hb
  simp [alB] at hc
  rcases hc with hc | hc
  · rw [hc] at h3
    simp [lowerB] at hc h3
    simp [charB, lowerB]
    omega
  · rw [hc] at h4
    simp [digitB] at hc h4
    simp [charB, lowerB, digitB]
    omega
theorem sing_char {u : ByteArray} {j : Nat} (h : charB (at8 u j) = true) (h' : ¬ (at8 u j = 45 ∧ 0 < j)) : singB u j = true := by
  unfold singB
  simp [charB] at h
  simp [alB]
  grind
theorem sing_not {u : ByteArray} {j : Nat} (h : charB (at8 u j) = false ∨ (at8 u j = 45 ∧ 0 < j)) : singB u j = false ∧ rngB u j = false := by
  have hal : alB (at8 u j) = false := by
    rcases h with h | h
    · cases ha : alB (at8 u j) with
      | false => rfl
      | true => rw [alB_char ha] at h; cases h
    · exact not_alB (.inl h.1)
  refine ⟨?_, by unfold rngB; rw [hal]; rfl⟩
  unfold singB
  rw [hal]
  rcases h with h | h
  · simp [charB] at h
    simp
    omega
  · rw [h.1]
    simp
    omega
theorem hasB_filter (q : UInt8 → Bool) (c : Int) (h0 : 0 ≤ c) (h1 : c ≤ 255) : hasB ⟨(nameBytes.data.toList.filter q).toArray⟩ c = (charB c && q c.toNat.toUInt8) := by
  rw [← name_char c h0 h1]
  unfold hasB
  simp only
  rw [Bool.eq_iff_iff]
  simp only [List.contains_iff_mem, Bool.and_eq_true, List.mem_filter]

set_option maxHeartbeats 1000000 in
set_option maxRecDepth 100000 in
theorem rclass_any (s : ByteArray) (k : Nat) (w : World) (hk : k < s.size) (h91 : at8 s k = 91) (hs : s.size ≤ 1048576) :
    Calls Tryz.prog 89 #[.string s, .int .i64 k] w fun e w' => K0 w w' ∧
      ((clsN (s.extract k s.size) = 0 ∧ ∃ b f, e = .returned (.tuple #[.agg (reL b f).toArray, .int .i64 (-1)])) ∨
       (clsN (s.extract k s.size) ≠ 0 ∧ ∃ f, e = .returned (.tuple #[.agg (reL false f).toArray, .int .i64 (k + clsN (s.extract k s.size) : Nat)]) ∧ RelE (.cls (clsS (s.extract k s.size))) ⟨false, f⟩)) := by
  generalize ht : s.extract k s.size = t
  have tsz : t.size = s.size - k := by rw [← ht, ByteArray.size_extract]; omega
  have tat : ∀ j, j < t.size → at8 t j = at8 s (k + j) := fun j hj => by rw [← ht]; exact at8_extract s k s.size j (by omega) (Nat.le_refl _)
  have t0 : at8 t 0 = 91 := by rw [tat 0 (by omega)]; exact h91
  have hneg := negB_eq (t := t) (by omega) t0
  refine vc_rclass s k w _ ?_
  intro n w1 hn n1 w2 hn1
  have b1 : SetB w2 n false (fun _ => false) := (setB_new (by kernel_rfl) hn).kp (hn1.kp (fun _ => False)) (fun h => h)
  have b2 : SetB w2 n1 false (fun _ => false) := setB_new (by kernel_rfl) hn1
  have hne : n ≠ n1 := by have := hn.size; have := hn1.hn; omega
  have g1 : w.heap.size ≤ n := hn.ge
  have g2 : w.heap.size ≤ n1 := by have := hn.size; have := hn1.hn; omega
  have k2 : K0 w w2 := (hn.kp _).trans (hn1.kp _)
  rw [wr64 (x := (k : Int) + 1) (by omega) (by omega), wr64 (x := (k : Int) + 1 + 1) (by omega) (by omega)]
  have e1 : ((k : Int) + 1).toNat = k + 1 := by omega
  rw [e1]
  -- the sign of the class
  have hsg : (decide ((k : Int) + 1 < (s.size : Int)) && at8 s (k + 1) == 94) = negB t := by
    rw [hneg]
    by_cases h : 1 < t.size
    · rw [tat 1 h]
      have h1 : decide ((k : Int) + 1 < (s.size : Int)) = true := by simp; omega
      rw [h1]
      simp [h]
    · have h1 : decide ((k : Int) + 1 < (s.size : Int)) = false := by simp; omega
      rw [h1]
      simp [h]
  rw [hsg]
  refine ⟨gimp_intro fun h => ⟨by omega, by simpa using h⟩, fun vs w' => vs = [.int .i64 ((k + fromN t : Nat) : Int)] ∧ w' = w2, ?_, ?_⟩
  · refine bsp_intro (fun h => ⟨?_, rfl⟩) (fun h => ⟨?_, rfl⟩)
    · unfold fromN; rw [if_pos h]; congr 2
    · unfold fromN; rw [if_neg (by rw [h]; decide)]; congr 2
  rintro x w' ⟨hx, rfl⟩
  have hx : x = ((k + fromN t : Nat) : Int) := by simpa using hx
  subst hx
  have hfrom : fromN t ≤ t.size := by
    unfold fromN
    split
    · rename_i h; exact hasPrefix_size h
    · omega
  have hfrom1 : 1 ≤ fromN t := by unfold fromN; split <;> omega
  generalize hu : restB t = u
  have usz : u.size = t.size - fromN t := by rw [← hu]; unfold restB; rw [ByteArray.size_extract]; omega
  have uat : ∀ j, j < u.size → at8 u j = at8 s (k + fromN t + j) := fun j hj => by
    rw [← hu]; unfold restB
    rw [at8_extract t _ _ j (by omega) (Nat.le_refl _), tat _ (by omega), Nat.add_assoc]
  have utat : ∀ j, j < u.size → at8 t (fromN t + j) = at8 u j := fun j hj => by rw [uat j hj, tat _ (by omega), Nat.add_assoc]
  have hL : listS t = itemsS u u.size 0 (fun _ => false) := by unfold listS; rw [hu]
  generalize hfr : fromN t = fr at *
  have bad : ∀ (wx : World) (f : Nat → Bool), SetB wx n1 false f → SetB wx n false (fun _ => false) → K0 w wx → clsN t = 0 →
      ∃ (x : Bool) (f : Nat → Bool), AtL wx n1 0 ([Value.bool x] ++ arrBo f 128 0) ∧ WrL wx n 0 129 ∧ ∀ (w1 : World), PutB wx n 0 ([Value.bool x] ++ arrBo f 128 0) w1 →
        ∃ (x : Bool) (f : Nat → Bool), AtL w1 n 0 ([Value.bool x] ++ arrBo f 128 0) ∧ (K0 w w1 ∧ ((clsN t = 0 ∧ ∃ b g, Ending.returned (.tuple #[.agg ([Value.bool x] ++ arrBo f 128 0).toArray, .int .i64 (-1)]) = .returned (.tuple #[.agg (reL b g).toArray, .int .i64 (-1)])) ∨
          (clsN t ≠ 0 ∧ ∃ g, Ending.returned (.tuple #[.agg ([Value.bool x] ++ arrBo f 128 0).toArray, .int .i64 (-1)]) = .returned (.tuple #[.agg (reL false g).toArray, .int .i64 (k + clsN t : Nat)]) ∧ RelE (.cls (clsS t)) ⟨false, g⟩))) := fun wx f h1 h2 hkx h0 =>
    ⟨false, f, h1.at_, h2.wrl, fun wy hp => ⟨false, f, (h2.full hp).at_, hkx.fresh hp.kp (fun i hi e => by omega), .inl ⟨h0, false, f, rfl⟩⟩⟩
  refine ⟨fun vs wx => ∃ (j fl : Nat) (f : Nat → Bool) (p : Int → Bool), vs = [.int .i64 ((k + fr + j : Nat) : Int)] ∧ j ≤ u.size ∧ u.size - j ≤ fl ∧ itemsS u fl j p = listS t ∧ SetB wx n1 false f ∧ SetB wx n false (fun _ => false) ∧ (∀ c : Nat, c < 128 → f c = p c) ∧ (∀ c, p c = true → charB c = true) ∧ K0 w wx,
    fun vs _ => (match vs with | .int _ x :: _ => s.size + 4 - x.toNat | _ => 0), ⟨0, u.size, _, (fun _ => false), rfl, by omega, by omega, hL.symm, b2, b1, (fun _ _ => rfl), (fun _ h => by cases h), k2⟩, ?_⟩
  rintro x wx ⟨j, fl, f, p, hv, hj, hfl, hS, hb, hb0, hfp, hpc, hkx⟩
  have hv : x = ((k + fr + j : Nat) : Int) := by simpa using hv
  subst hv
  have hsz : s.size = k + fr + u.size := by omega
  have ej : (((k + fr + j : Nat) : Int)).toNat = k + fr + j := Int.toNat_natCast _
  rw [ej]
  refine ⟨gimp_intro fun h => ⟨by omega, by simpa using h⟩, bsp_intro (fun h => ?_) (fun h => ?_)⟩
  · have hlt : j < u.size := by simp at h; omega
    have h93 : at8 s (k + fr + j) ≠ 93 := by simp at h; exact h.2
    rw [← uat j hlt] at h93 ⊢
    obtain ⟨fl, rfl⟩ : ∃ g, fl = g + 1 := ⟨fl - 1, by omega⟩
    refine ⟨⟨by omega, by omega⟩, bsp_intro (fun hc => ?_) (fun hc => ?_)⟩
    · refine bad wx f hb hb0 hkx ?_
      have hc : charB (at8 u j) = false ∨ (at8 u j = 45 ∧ 0 < j) := by
        simp only [Bool.or_eq_true, Bool.not_eq_true', Bool.and_eq_true, beq_iff_eq, decide_eq_true_eq] at hc
        rcases hc with h | h
        · exact .inl h
        · exact .inr ⟨h.1, by omega⟩
      obtain ⟨q1, q2⟩ := sing_not hc
      rw [items_stop q2 q1] at hS
      refine cls0 (j := j) (by rw [← hS]) (.inr (.inr ?_))
      rw [hfr, utat j hlt]; exact h93
    have hch : charB (at8 u j) = true := by
      cases hx : charB (at8 u j) with
      | true => rfl
      | false => rw [hx] at hc; simp at hc
    have hd : ¬ (at8 u j = 45 ∧ 0 < j) := fun hx => by
      rw [hch] at hc
      simp only [Bool.not_true, Bool.false_or, Bool.and_eq_false_iff, beq_eq_false_iff_ne, decide_eq_false_iff_not] at hc
      rcases hc with h | h
      · exact h hx.1
      · exact h (by omega)
    have hsing := sing_char hch hd
    rw [wr64 (x := ((k + fr + j : Nat) : Int) + 1) (by omega) (by omega), wr64 (x := ((k + fr + j : Nat) : Int) + 2) (by omega) (by omega), wr64 (x := ((k + fr + j : Nat) : Int) + 3) (by omega) (by omega)]
    have ej1 : (((k + fr + j : Nat) : Int) + 1).toNat = k + fr + (j + 1) := by omega
    have ej2 : (((k + fr + j : Nat) : Int) + 2).toNat = k + fr + (j + 2) := by omega
    rw [ej1, ej2]
    refine ⟨gimp_intro fun h => ⟨by omega, by simp at h; omega⟩, bsp_intro (fun hr => ?_) (fun hr => ?_)⟩
    · simp only [Bool.and_eq_true, bne_iff_ne, ne_eq, decide_eq_true_eq, beq_iff_eq] at hr
      obtain ⟨⟨hn45, hlt1⟩, h45⟩ := hr
      have hlt1 : j + 1 < u.size := by omega
      rw [← uat (j + 1) hlt1] at h45
      refine ⟨gimp_intro fun h => ⟨by omega, by simp at h; omega⟩, gimp_intro fun h => ⟨by omega, by simp at h; omega⟩, bsp_intro (fun hbd => ?_) (fun hbd => ?_)⟩
      · refine bad wx f hb hb0 hkx ?_
        by_cases hrn : rngB u j = true
        · have hrn' := hrn
          simp only [rngB, Bool.and_eq_true, decide_eq_true_eq, beq_iff_eq] at hrn
          have hbb : badB (at8 u j) (at8 u (j + 2)) = true := by
            have h2 : decide (((k + fr + j : Nat) : Int) + 2 ≥ (s.size : Int)) = false := by simp; omega
            rw [h2, alnum_zero, hrn.1.1, ← uat (j + 2) hrn.1.2] at hbd
            rw [← alnum_bad hrn.1.1]
            simpa using hbd
          have : itemsS u (fl + 1) j p = (p, j) := by unfold itemsS; rw [if_pos hlt, if_pos hrn', if_pos hbb]
          rw [this] at hS
          refine cls0 (j := j) (by rw [← hS]) (.inr (.inr ?_))
          rw [hfr, utat j hlt]; exact h93
        · have hst : itemsS u (fl + 1) j p = (fun d => p d || decide (d = at8 u j), j + 1) := by
            unfold itemsS
            rw [if_pos hlt, if_neg hrn, if_pos hsing]
            obtain ⟨q1, q2⟩ := sing_not (u := u) (j := j + 1) (.inr ⟨h45, by omega⟩)
            exact items_stop q2 q1
          rw [hst] at hS
          refine cls0 (j := j + 1) (by rw [← hS]) (.inr (.inr ?_))
          rw [hfr, utat (j + 1) hlt1, h45]; decide
      · -- a range
        have hlt2 : j + 2 < u.size := by simp at hbd; omega
        rw [← uat (j + 2) hlt2] at hbd ⊢
        have h2 : decide (((k + fr + j : Nat) : Int) + 2 ≥ (s.size : Int)) = false := by simp; omega
        rw [h2, alnum_zero] at hbd
        have hal : alB (at8 u j) = true := by
          cases hx : alB (at8 u j) with
          | true => rfl
          | false => rw [hx] at hbd; simp at hbd
        rw [hal] at hbd
        have hbb : badB (at8 u j) (at8 u (j + 2)) = false := by rw [← alnum_bad hal]; simpa using hbd
        obtain ⟨hle, hall⟩ := badB_not hbb hal
        have hcb := alB_bd hal
        have hlb := alB_bd hall
        have hrn : rngB u j = true := by simp [rngB, hal, hlt2, h45]
        have hst : itemsS u (fl + 1) j p = itemsS u fl (j + 3) (fun d => p d || (decide (at8 u j ≤ d) && decide (d ≤ at8 u (j + 2)))) := by
          conv => lhs; unfold itemsS
          rw [if_pos hlt, if_pos hrn, if_neg (by rw [hbb]; decide)]
        have hmid := fun d (h1 : at8 u j ≤ d) (h2 : d ≤ at8 u (j + 2)) => alB_mid hal hbb h1 h2
        generalize at8 u j = c at *
        generalize at8 u (j + 2) = l at *
        rw [wr64 (x := c) (by omega) (by omega), wr64 (x := l) (by omega) (by omega)]
        refine ⟨fun vs wy => ∃ m : Nat, vs = [.int .i64 (c + m)] ∧ c + m ≤ l + 1 ∧ SetB wy n1 false (fun d => f d || (decide (c ≤ (d : Int)) && decide ((d : Int) < c + m))) ∧ SetB wy n false (fun _ => false) ∧ K0 w wy,
          fun vs _ => (match vs with | .int _ x :: _ => (l + 2 - x).toNat | _ => 0), ⟨0, by simp, by omega, hb.congr (fun d _ => by
            have : (decide (c ≤ (d : Int)) && decide ((d : Int) < c + (0 : Nat))) = false := by simp
            rw [this, Bool.or_false]), hb0, hkx⟩, ?_⟩
        rintro x wy ⟨m, hv, hm, hby, hby0, hky⟩
        have hv : x = c + m := by simpa using hv
        subst hv
        refine ⟨⟨by omega, by omega⟩, bsp_intro (fun hxl => ?_) (fun hxl => ?_)⟩
        · have hxl : c + (m : Int) ≤ l := by simpa using hxl
          have hlt128 : (c + (m : Int)).toNat < 128 := by omega
          refine ⟨⟨by omega, by omega⟩, hby.wr hlt128, fun wz hp => ⟨⟨m + 1, ?_, by omega, (hby.put hp).congr (fun d _ => ?_), hby0.kp hp.kp (fun e => hne e), hky.fresh hp.kp (fun i hi e => by omega)⟩, ?_⟩⟩
          · rw [wr64 (by omega) (by omega)]; congr 2; omega
          · show (if d = (c + (m : Int)).toNat then true else (f d || (decide (c ≤ (d : Int)) && decide ((d : Int) < c + m)))) = (f d || (decide (c ≤ (d : Int)) && decide ((d : Int) < c + ((m + 1 : Nat) : Int))))
            by_cases e : d = (c + (m : Int)).toNat
            · rw [if_pos e]
              have : (decide (c ≤ (d : Int)) && decide ((d : Int) < c + ((m + 1 : Nat) : Int))) = true := by simp; omega
              rw [this]; simp
            · rw [if_neg e]
              have : decide ((d : Int) < c + (m : Int)) = decide ((d : Int) < c + ((m + 1 : Nat) : Int)) := by
                rw [decide_eq_decide]; omega
              rw [this]
          · rw [wr64 (by omega) (by omega)]
            simp only
            omega
        · have hxl : ¬ c + (m : Int) ≤ l := by simpa using hxl
          have hml : c + (m : Int) = l + 1 := by omega
          refine ⟨⟨j + 3, fl, _, _, ?_, by omega, by omega, hst.symm.trans hS, hby, hby0, fun d hd => ?_, fun d hd => ?_, hky⟩, ?_⟩
          · congr 2
          · show (f d || (decide (c ≤ (d : Int)) && decide ((d : Int) < c + m))) = (p d || (decide (c ≤ (d : Int)) && decide ((d : Int) ≤ l)))
            rw [hfp d hd, hml]
            have : decide ((d : Int) < l + 1) = decide ((d : Int) ≤ l) := by rw [decide_eq_decide]; omega
            rw [this]
          · simp only [Bool.or_eq_true, Bool.and_eq_true, decide_eq_true_eq] at hd
            rcases hd with hd | hd
            · exact hpc d hd
            · exact hmid d hd.1 hd.2
          · simp only; omega
    · -- a single character
      have hrn : ¬ rngB u j = true := fun hrn => by
        simp only [rngB, Bool.and_eq_true, decide_eq_true_eq, beq_iff_eq] at hrn
        have h1 : decide (((k + fr + j : Nat) : Int) + 1 < (s.size : Int)) = true := by simp; omega
        rw [h1, ← uat (j + 1) (by omega), hrn.2] at hr
        have h45 : at8 u j = 45 := by simpa using hr
        have := hrn.1.1
        rw [h45] at this
        revert this; decide
      have hst : itemsS u (fl + 1) j p = itemsS u fl (j + 1) (fun d => p d || decide (d = at8 u j)) := by
        conv => lhs; unfold itemsS
        rw [if_pos hlt, if_neg hrn, if_pos hsing]
      have hcb := charB_lt hch
      generalize at8 u j = c at *
      have hlt128 : c.toNat < 128 := by omega
      refine ⟨⟨by omega, by omega⟩, hb.wr hlt128, fun wz hp => ⟨⟨j + 1, fl, _, _, by congr 2, by omega, by omega, hst.symm.trans hS, hb.put hp, hb0.kp hp.kp (fun e => hne e), fun d hd => ?_, fun d hd => ?_, hkx.fresh hp.kp (fun i hi e => by omega)⟩, ?_⟩⟩
      · show (if d = c.toNat then true else f d) = (p d || decide ((d : Int) = c))
        by_cases e : d = c.toNat
        · rw [if_pos e]
          have : decide ((d : Int) = c) = true := by simp; omega
          rw [this]; simp
        · rw [if_neg e, hfp d hd]
          have : decide ((d : Int) = c) = false := by simp; omega
          rw [this]; simp
      · simp only [Bool.or_eq_true, decide_eq_true_eq] at hd
        rcases hd with hd | hd
        · exact hpc d hd
        · rw [hd]; exact hch
      · simp only; omega
  · -- the end of the items
    have hend : u.size ≤ j ∨ (j < u.size ∧ at8 u j = 93) := by
      rcases Nat.lt_or_ge j u.size with hlt | hge
      · right
        refine ⟨hlt, ?_⟩
        have h1 : decide (((k + fr + j : Nat) : Int) < (s.size : Int)) = true := by simp; omega
        rw [h1, ← uat j hlt] at h
        simpa using h
      · exact .inl hge
    have hstop : listS t = (p, j) := by
      rw [← hS]
      rcases hend with he | ⟨hlt, h93⟩
      · cases fl with
        | zero => rfl
        | succ fl => unfold itemsS; rw [if_neg (by omega)]
      · have h1 : charB (at8 u j) = false := by rw [h93]; decide
        obtain ⟨q1, q2⟩ := sing_not (.inl h1)
        exact items_stop q2 q1
    refine bsp_intro (fun hb1 => bad wx f hb hb0 hkx ?_) (fun hb1 => ?_)
    · refine cls0 (j := j) (by rw [hstop]) ?_
      simp only [Bool.or_eq_true, decide_eq_true_eq, beq_iff_eq] at hb1
      rw [hfr]
      rcases hb1 with h1 | h1
      · exact .inr (.inl (by omega))
      · exact .inl (by omega)
    simp only [Bool.or_eq_false_iff, decide_eq_false_iff_not, beq_eq_false_iff_ne] at hb1
    obtain ⟨hb1, hb2⟩ := hb1
    have hlt : j < u.size := by omega
    have h93 : at8 u j = 93 := by
      rcases hend with he | he
      · omega
      · exact he.2
    have hcn : clsN t = fr + j + 1 := by
      unfold clsN
      rw [hstop, hfr]
      simp only
      rw [if_neg]
      rintro (h1 | h1 | h1)
      · exact hb2 (by omega)
      · omega
      · rw [utat j hlt] at h1; exact h1 h93
    have hcs : clsS t = ⟨(nameBytes.data.toList.filter fun b => !(p b.toNat == negB t)).toArray⟩ := by
      unfold clsS
      rw [if_neg (by omega), hstop]
    have fin : ∀ (wy : World) (g : Nat → Bool), (∀ c : Nat, c < 128 → g c = (charB c && !(p c == negB t))) → SetB wy n1 false g → SetB wy n false (fun _ => false) → K0 w wy →
        ∃ (x : Bool) (f : Nat → Bool), AtL wy n1 0 ([Value.bool x] ++ arrBo f 128 0) ∧ WrL wy n 0 129 ∧ ∀ (w1 : World), PutB wy n 0 ([Value.bool x] ++ arrBo f 128 0) w1 →
          ∃ (x : Bool) (f : Nat → Bool), AtL w1 n 0 ([Value.bool x] ++ arrBo f 128 0) ∧ (K0 w w1 ∧ ((clsN t = 0 ∧ ∃ b h, Ending.returned (.tuple #[.agg ([Value.bool x] ++ arrBo f 128 0).toArray, .int .i64 (IntKind.i64.wrap (((k + fr + j : Nat) : Int) + 1))]) = .returned (.tuple #[.agg (reL b h).toArray, .int .i64 (-1)])) ∨
            (clsN t ≠ 0 ∧ ∃ h, Ending.returned (.tuple #[.agg ([Value.bool x] ++ arrBo f 128 0).toArray, .int .i64 (IntKind.i64.wrap (((k + fr + j : Nat) : Int) + 1))]) = .returned (.tuple #[.agg (reL false h).toArray, .int .i64 (k + clsN t : Nat)]) ∧ RelE (.cls (clsS t)) ⟨false, h⟩))) := fun wy g hg h1 h2 hky => by
      refine ⟨false, g, h1.at_, h2.wrl, fun wz hp => ⟨false, g, (h2.full hp).at_, hky.fresh hp.kp (fun i hi e => by omega), .inr ⟨by omega, g, ?_, rfl, fun _ c hc => ?_, fun c h0 h1 hh => ?_⟩⟩⟩
      · rw [wr64 (by omega) (by omega), hcn, show ((k + fr + j : Nat) : Int) + 1 = ((k + (fr + j + 1) : Nat) : Int) by omega]
        rfl
      · show hasB (clsS t) c = g c
        rw [hcs, hasB_filter _ c (by omega) (by omega), hg c hc]
        congr 3
        rw [show ((c : Int).toNat.toUInt8.toNat : Int) = (c : Int) by rw [Int.toNat_natCast, UInt8.toNat_ofNat']; omega]
      · have hh : hasB (clsS t) c = true := hh
        rw [hcs, hasB_filter _ c h0 h1] at hh
        simp only [Bool.and_eq_true] at hh
        exact hh.1
    refine ⟨fun vs wy => ∃ g : Nat → Bool, vs = [] ∧ (∀ c : Nat, c < 128 → g c = (charB c && !(p c == negB t))) ∧ SetB wy n1 false g ∧ SetB wy n false (fun _ => false) ∧ K0 w wy, ?_, fun wy ⟨g, _, h1, h2, h3, h4⟩ => fin wy g h1 h2 h3 h4⟩
    refine bsp_intro (fun hng => ?_) (fun hng => ⟨f, rfl, fun c hc => ?_, hb, hb0, hkx⟩)
    · rw [hng]
      refine ⟨fun vs wy => ∃ m : Nat, vs = [.int .i64 m] ∧ m ≤ 128 ∧ SetB wy n1 false (fun d => if d < m then charB d && !f d else f d) ∧ SetB wy n false (fun _ => false) ∧ K0 w wy, fun vs _ => (match vs with | .int _ x :: _ => 128 - x.toNat | _ => 0),
        ⟨0, rfl, by omega, hb.congr (fun d _ => by simp), hb0, hkx⟩, ?_⟩
      rintro x wy ⟨m, hv, hm, hby, hby0, hky⟩
      have hv : x = (m : Int) := by simpa using hv
      subst hv
      refine bsp_intro (fun hlt => ?_) (fun hge => ?_)
      · have hlt : m < 128 := by simp at hlt; omega
        have eu : IntKind.u8.wrap (m : Int) = (m : Int) := IntWalk.u8_in m ⟨by omega, by omega⟩
        rw [eu, Int.toNat_natCast]
        refine ⟨gimp_intro fun _ => ⟨by omega, by omega⟩, f m, gimp_intro fun _ => ?_, ⟨by omega, by omega⟩, hby.wr hlt, fun wz hp => ⟨⟨m + 1, ?_, by omega, (hby.put hp).congr (fun d _ => ?_), hby0.kp hp.kp (fun e => hne e), hky.fresh hp.kp (fun i hi e => by omega)⟩, ?_⟩⟩
        · have := hby.cell hlt
          rw [this]
          simp
        · rw [wr64 (by omega) (by omega)]; rfl
        · show (if d = m then (charB m && !f m) else (if d < m then charB d && !f d else f d)) = (if d < m + 1 then charB d && !f d else f d)
          by_cases e : d = m
          · subst e; simp
          · rw [if_neg e]
            by_cases e2 : d < m
            · rw [if_pos e2, if_pos (by omega)]
            · rw [if_neg e2, if_neg (by omega)]
        · rw [wr64 (by omega) (by omega)]
          simp only
          omega
      · have hge : ¬ m < 128 := by simp at hge; omega
        refine ⟨_, rfl, fun c hc => ?_, hby, hby0, hky⟩
        show (if c < m then charB c && !f c else f c) = _
        rw [if_pos (by omega), hfp c hc]
        simp
    · rw [hng, hfp c hc]
      cases hp : p c with
      | false => simp
      | true => rw [hpc c hp]; simp

end Go.Proofs.YtkkfnlehlkiejaaGreatDoor

/- The formulas of functions by the symbolic evaluator, and that each gives the call's contract. Written by a program (gen.py). No condition. -/
namespace Go.Proofs.YtkkfnlehlkiejaaGreatDoor
set_option maxRecDepth 100000
set_option linter.unusedVariables false

def VC_rcompile (s : ByteArray) (w : World) (R : Ending → World → Prop) : Prop :=
 ∀ (n : Nat) (w1 : World),
 NewB w (Obj.cells #[Value.string (ByteArray.mk #[]), Value.slice none 0 0] 129) n w1 →
 bsp (s.toList == [])
 (WrL w1 n 0 2 ∧
 ∀ (w1_1 : World),
 PutB w1 n 0 [Value.string (ByteArray.mk #[]), Value.slice none 0 0] w1_1 →
 ∃ (x : ByteArray),
 ∃ (p : Option Addr),
 ∃ (n_1 : Nat),
 ∃ (c : Nat),
 AtL w1_1 n 0 [Value.string x, Value.slice p n_1 c] ∧
 R
 (Ending.returned
 (Value.tuple
 #[Value.agg #[Value.string x, Value.slice p n_1 c], Value.int IntKind.i64 0, Value.int IntKind.i64 4]))
 w1_1)
 (bsp (decide ((↑s.size : Int) > 80))
 (WrL w1 n 0 2 ∧
 ∀ (w1_1 : World),
 PutB w1 n 0 [Value.string (ByteArray.mk #[]), Value.slice none 0 0] w1_1 →
 ∃ (x : ByteArray),
 ∃ (p : Option Addr),
 ∃ (n_1 : Nat),
 ∃ (c : Nat),
 AtL w1_1 n 0 [Value.string x, Value.slice p n_1 c] ∧
 R
 (Ending.returned
 (Value.tuple
 #[Value.agg #[Value.string x, Value.slice p n_1 c], Value.int IntKind.i64 80, Value.int IntKind.i64 5]))
 w1_1)
 (∀ (n_1 : Nat) (w1_1 : World),
 NewB w1 (Obj.cells #[Value.string (ByteArray.mk #[]), Value.slice none 0 0] 129) n_1 w1_1 →
 WrL w1_1 n_1 0 2 ∧
 ∀ (w1 : World),
 PutB w1_1 n_1 0 [Value.string s, Value.slice none 0 0] w1 →
 ∃ (I : List Value → World → Prop),
 ∃ (m : List Value → World → Nat),
 I [Value.int IntKind.i64 0] w1 ∧
 ∀ (x : Int) (w' : World),
 I [Value.int IntKind.i64 x] w' →
 bsp (decide (x < (↑s.size : Int)))
 (∀ (n_2 : Nat) (w1 : World),
 NewB w'
 (Obj.cells
 #[Value.bool false, Value.bool false, Value.bool false, Value.bool false, Value.bool false,
 Value.bool false, Value.bool false, Value.bool false, Value.bool false, Value.bool false,
 Value.bool false, Value.bool false, Value.bool false, Value.bool false, Value.bool false,
 Value.bool false, Value.bool false, Value.bool false, Value.bool false, Value.bool false,
 Value.bool false, Value.bool false, Value.bool false, Value.bool false, Value.bool false,
 Value.bool false, Value.bool false, Value.bool false, Value.bool false, Value.bool false,
 Value.bool false, Value.bool false, Value.bool false, Value.bool false, Value.bool false,
 Value.bool false, Value.bool false, Value.bool false, Value.bool false, Value.bool false,
 Value.bool false, Value.bool false, Value.bool false, Value.bool false, Value.bool false,
 Value.bool false, Value.bool false, Value.bool false, Value.bool false, Value.bool false,
 Value.bool false, Value.bool false, Value.bool false, Value.bool false, Value.bool false,
 Value.bool false, Value.bool false, Value.bool false, Value.bool false, Value.bool false,
 Value.bool false, Value.bool false, Value.bool false, Value.bool false, Value.bool false,
 Value.bool false, Value.bool false, Value.bool false, Value.bool false, Value.bool false,
 Value.bool false, Value.bool false, Value.bool false, Value.bool false, Value.bool false,
 Value.bool false, Value.bool false, Value.bool false, Value.bool false, Value.bool false,
 Value.bool false, Value.bool false, Value.bool false, Value.bool false, Value.bool false,
 Value.bool false, Value.bool false, Value.bool false, Value.bool false, Value.bool false,
 Value.bool false, Value.bool false, Value.bool false, Value.bool false, Value.bool false,
 Value.bool false, Value.bool false, Value.bool false, Value.bool false, Value.bool false,
 Value.bool false, Value.bool false, Value.bool false, Value.bool false, Value.bool false,
 Value.bool false, Value.bool false, Value.bool false, Value.bool false, Value.bool false,
 Value.bool false, Value.bool false, Value.bool false, Value.bool false, Value.bool false,
 Value.bool false, Value.bool false, Value.bool false, Value.bool false, Value.bool false,
 Value.bool false, Value.bool false, Value.bool false, Value.bool false, Value.bool false,
 Value.bool false, Value.bool false, Value.bool false, Value.bool false]
 160)
 n_2 w1 →
 ∃ (J : List Value → World → Prop),
 ((0 ≤ x ∧ x < (↑s.size : Int)) ∧
 bsp (at8 s x.toNat == 42)
 (((∃ (u : Value), w1.cell? (Addr.mk n_2 0 none) = some u) ∧
 w1.frozen? (Addr.mk n_2 0 none) = false) ∧
 ∀ (w1_2 : World), PutB w1 n_2 0 [Value.bool true] w1_2 → J [Value.int IntKind.i64 x] w1_2)
 ((0 ≤ x ∧ x < (↑s.size : Int)) ∧
 bsp (at8 s x.toNat == 63)
 (∃ (I : List Value → World → Prop),
 ∃ (m : List Value → World → Nat),
 I [Value.int IntKind.i64 0] w1 ∧
 ∀ (x_1 : Int) (w' : World),
 I [Value.int IntKind.i64 x_1] w' →
 bsp (decide (x_1 < 128))
 ((0 ≤ x_1 ∧ x_1 < (↑128 : Int)) ∧
 ((∃ (u : Value), w'.cell? (Addr.mk n_2 (0 + 1 + x_1.toNat) none) = some u) ∧
 w'.frozen? (Addr.mk n_2 (0 + 1 + x_1.toNat) none) = false) ∧
 ∀ (w1 : World),
 PutB w' n_2 (0 + 1 + x_1.toNat) [Value.bool (charB (IntKind.u8.wrap x_1))] w1 →
 I [Value.int IntKind.i64 (IntKind.i64.wrap (x_1 + 1))] w1 ∧
 m [Value.int IntKind.i64 (IntKind.i64.wrap (x_1 + 1))] w1 <
 m [Value.int IntKind.i64 x_1] w')
 (J [Value.int IntKind.i64 x] w'))
 ((0 ≤ x ∧ x < (↑s.size : Int)) ∧
 bsp (at8 s x.toNat == 91)
 (CallsS Tryz.prog 89 #[Value.string s, Value.int IntKind.i64 x] w1
 fun (e : Ending) (w'_1 : World) =>
 ∃ (x_1 : Bool),
 ∃ (f : Nat → Bool),
 ∃ (x_2 : Int),
 e =
 Ending.returned
 (Value.tuple
 #[Value.agg
 ([Value.bool x_1] ++ arrBo f 128 0).toArray,
 Value.int IntKind.i64 x_2]) ∧
 ∀ (n_3 : Nat) (w1 : World),
 NewB w'_1
 (Obj.cells
 #[Value.bool false, Value.bool false, Value.bool false, Value.bool false,
 Value.bool false, Value.bool false, Value.bool false, Value.bool false,
 Value.bool false, Value.bool false, Value.bool false, Value.bool false,
 Value.bool false, Value.bool false, Value.bool false, Value.bool false,
 Value.bool false, Value.bool false, Value.bool false, Value.bool false,
 Value.bool false, Value.bool false, Value.bool false, Value.bool false,
 Value.bool false, Value.bool false, Value.bool false, Value.bool false,
 Value.bool false, Value.bool false, Value.bool false, Value.bool false,
 Value.bool false, Value.bool false, Value.bool false, Value.bool false,
 Value.bool false, Value.bool false, Value.bool false, Value.bool false,
 Value.bool false, Value.bool false, Value.bool false, Value.bool false,
 Value.bool false, Value.bool false, Value.bool false, Value.bool false,
 Value.bool false, Value.bool false, Value.bool false, Value.bool false,
 Value.bool false, Value.bool false, Value.bool false, Value.bool false,
 Value.bool false, Value.bool false, Value.bool false, Value.bool false,
 Value.bool false, Value.bool false, Value.bool false, Value.bool false,
 Value.bool false, Value.bool false, Value.bool false, Value.bool false,
 Value.bool false, Value.bool false, Value.bool false, Value.bool false,
 Value.bool false, Value.bool false, Value.bool false, Value.bool false,
 Value.bool false, Value.bool false, Value.bool false, Value.bool false,
 Value.bool false, Value.bool false, Value.bool false, Value.bool false,
 Value.bool false, Value.bool false, Value.bool false, Value.bool false,
 Value.bool false, Value.bool false, Value.bool false, Value.bool false,
 Value.bool false, Value.bool false, Value.bool false, Value.bool false,
 Value.bool false, Value.bool false, Value.bool false, Value.bool false,
 Value.bool false, Value.bool false, Value.bool false, Value.bool false,
 Value.bool false, Value.bool false, Value.bool false, Value.bool false,
 Value.bool false, Value.bool false, Value.bool false, Value.bool false,
 Value.bool false, Value.bool false, Value.bool false, Value.bool false,
 Value.bool false, Value.bool false, Value.bool false, Value.bool false,
 Value.bool false, Value.bool false, Value.bool false, Value.bool false,
 Value.bool false, Value.bool false, Value.bool false, Value.bool false,
 Value.bool false]
 160)
 n_3 w1 →
 WrL w1 n_3 0 129 ∧
 ∀ (w1_2 : World),
 PutB w1 n_3 0
 ([Value.bool x_1] ++ arrBo f 128 0)
 w1_2 →
 bsp (decide (x_2 < 0))
 (WrL w1_2 n 0 2 ∧
 ∀ (w1 : World),
 PutB w1_2 n 0 [Value.string (ByteArray.mk #[]), Value.slice none 0 0] w1 →
 ∃ (x_3 : ByteArray),
 ∃ (p : Option Addr),
 ∃ (n_4 : Nat),
 ∃ (c : Nat),
 AtL w1 n 0 [Value.string x_3, Value.slice p n_4 c] ∧
 R
 (Ending.returned
 (Value.tuple
 #[Value.agg #[Value.string x_3, Value.slice p n_4 c],
 Value.int IntKind.i64 x, Value.int IntKind.i64 3]))
 w1)
 (∃ (p : Option Addr),
 ∃ (n : Nat),
 ∃ (c : Nat),
 w1_2.cell? (Addr.mk n_1 (0 + 1) none) = some (Value.slice p n c) ∧
 ∃ (x_3 : Bool),
 ∃ (f : Nat → Bool),
 AtL w1_2 n_3 0
 ([Value.bool x_3] ++ arrBo f 128 0) ∧
 ∀ (n_4 : Nat) (w1 : World),
 NewB w1_2
 (Obj.cells
 ([Value.bool x_3] ++ arrBo f 128 0).toArray
 160)
 n_4 w1 →
 ∃ (base : Nat),
 ∃ (xs : List Value),
 ∃ (news : List Value),
 w1.ownsRow base 160 129 (Value.slice p n c) n xs ∧
 news.length = 129 ∧
 SrcP w1 (some (Addr.mk n_4 0 none)) news ∧
 n + 1 ≤ 9223372036854775807 ∧
 (n + 1) * 129 ≤ 140737488355328 ∧
 base ≤ w1.heap.size ∧
 ∀ (p' : Option Addr) (c' : Nat) (w'_2 : World),
 w'_2.ownsRow base 160 129 (Value.slice p' (n + 1) c') (n + 1)
 (xs ++ news) →
 w1.grownBy w'_2 (Value.slice p n c).ownBlock →
 (n + 1 ≤ c → p' = p ∧ c' = c) →
 ((∃ (u : Value),
 w'_2.cell? (Addr.mk n_1 (0 + 1) none) = some u) ∧
 w'_2.frozen? (Addr.mk n_1 (0 + 1) none) = false) ∧
 ∀ (w1 : World),
 PutB w'_2 n_1 (0 + 1) [Value.slice p' (n + 1) c'] w1 →
 I [Value.int IntKind.i64 x_2] w1 ∧
 m [Value.int IntKind.i64 x_2] w1 <
 m [Value.int IntKind.i64 x] w'))
 ((0 ≤ x ∧ x < (↑s.size : Int)) ∧
 bsp (charB (at8 s x.toNat))
 ((0 ≤ x ∧ x < (↑s.size : Int)) ∧
 (0 ≤ at8 s x.toNat ∧ at8 s x.toNat < (↑128 : Int)) ∧
 ((∃ (u : Value), w1.cell? (Addr.mk n_2 (0 + 1 + (at8 s x.toNat).toNat) none) = some u) ∧
 w1.frozen? (Addr.mk n_2 (0 + 1 + (at8 s x.toNat).toNat) none) = false) ∧
 ∀ (w1_2 : World),
 PutB w1 n_2 (0 + 1 + (at8 s x.toNat).toNat) [Value.bool true] w1_2 →
 J [Value.int IntKind.i64 x] w1_2)
 (WrL w1 n 0 2 ∧
 ∀ (w1_2 : World),
 PutB w1 n 0 [Value.string (ByteArray.mk #[]), Value.slice none 0 0] w1_2 →
 ∃ (x_1 : ByteArray),
 ∃ (p : Option Addr),
 ∃ (n_3 : Nat),
 ∃ (c : Nat),
 AtL w1_2 n 0 [Value.string x_1, Value.slice p n_3 c] ∧
 R
 (Ending.returned
 (Value.tuple
 #[Value.agg #[Value.string x_1, Value.slice p n_3 c], Value.int IntKind.i64 x,
 Value.int IntKind.i64 6]))
 w1_2))))) ∧
 ∀ (x_1 : Int) (w'_1 : World),
 J [Value.int IntKind.i64 x_1] w'_1 →
 ∃ (p : Option Addr),
 ∃ (n : Nat),
 ∃ (c : Nat),
 w'_1.cell? (Addr.mk n_1 (0 + 1) none) = some (Value.slice p n c) ∧
 ∃ (x_2 : Bool),
 ∃ (f : Nat → Bool),
 AtL w'_1 n_2 0
 ([Value.bool x_2] ++ arrBo f 128 0) ∧
 ∀ (n_3 : Nat) (w1 : World),
 NewB w'_1
 (Obj.cells
 ([Value.bool x_2] ++ arrBo f 128 0).toArray
 160)
 n_3 w1 →
 ∃ (base : Nat),
 ∃ (xs : List Value),
 ∃ (news : List Value),
 w1.ownsRow base 160 129 (Value.slice p n c) n xs ∧
 news.length = 129 ∧
 SrcP w1 (some (Addr.mk n_3 0 none)) news ∧
 n + 1 ≤ 9223372036854775807 ∧
 (n + 1) * 129 ≤ 140737488355328 ∧
 base ≤ w1.heap.size ∧
 ∀ (p' : Option Addr) (c' : Nat) (w'_2 : World),
 w'_2.ownsRow base 160 129 (Value.slice p' (n + 1) c') (n + 1) (xs ++ news) →
 w1.grownBy w'_2 (Value.slice p n c).ownBlock →
 (n + 1 ≤ c → p' = p ∧ c' = c) →
 ((∃ (u : Value), w'_2.cell? (Addr.mk n_1 (0 + 1) none) = some u) ∧
 w'_2.frozen? (Addr.mk n_1 (0 + 1) none) = false) ∧
 ∀ (w1 : World),
 PutB w'_2 n_1 (0 + 1) [Value.slice p' (n + 1) c'] w1 →
 I [Value.int IntKind.i64 (IntKind.i64.wrap (x_1 + 1))] w1 ∧
 m [Value.int IntKind.i64 (IntKind.i64.wrap (x_1 + 1))] w1 <
 m [Value.int IntKind.i64 x] w')
 (∃ (x : ByteArray),
 ∃ (p : Option Addr),
 ∃ (n_2 : Nat),
 ∃ (c : Nat),
 AtL w' n_1 0 [Value.string x, Value.slice p n_2 c] ∧
 WrL w' n 0 2 ∧
 ∀ (w1 : World),
 PutB w' n 0 [Value.string x, Value.slice p n_2 c] w1 →
 ∃ (x : ByteArray),
 ∃ (p : Option Addr),
 ∃ (n_3 : Nat),
 ∃ (c : Nat),
 AtL w1 n 0 [Value.string x, Value.slice p n_3 c] ∧
 R
 (Ending.returned
 (Value.tuple
 #[Value.agg #[Value.string x, Value.slice p n_3 c], Value.int IntKind.i64 0,
 Value.int IntKind.i64 0]))
 w1)))
theorem vc_rcompile (s : ByteArray) (w : World) (R : Ending → World → Prop) (h : VC_rcompile s w R) : Calls Tryz.prog 66 ([Value.string
    s] : List Value).toArray w R := by
  have e : execR { P := Tryz.prog, loops := [(7, [(6, Ck.int IntKind.i64)]), (14, [(8, Ck.int IntKind.i64)])], pur := pur1, tails := [], joins := [(25, [(6, Ck.int IntKind.i64)])], boxes := [] } Tryz.f66.results.toList R (Tryz.f66.body.getD .skip) (initF [Value.string
    s] (Tryz.f66.ntmps - ([Value.string s] : List Value).length)) w = VC_rcompile s w R := by kernel_rfl
  have hb : Tryz.f66.body = some (Tryz.f66.body.getD .skip) := by kernel_rfl
  exact calls_of_exec' (P := Tryz.prog) (fn := Tryz.f66) (c := Tryz.f66.body.getD .skip) (args := [Value.string
    s]) (w := w) (R := R) pur1_ok Tryz.func66 hb e h

end Go.Proofs.YtkkfnlehlkiejaaGreatDoor

/- The contract of the reference's Compile: it agrees with the program's. No condition. -/
namespace Go.Proofs.YtkkfnlehlkiejaaGreatDoor
open Go.RowKit

/-- The cells of elements of the reference. -/
def rows (rs : List RE) : List Value := rs.flatMap fun r => reL r.star r.set
theorem rows_length : ∀ rs : List RE, (rows rs).length = rs.length * 129
  | [] => rfl
  | r :: rs => by
    have := rows_length rs
    unfold rows at this ⊢
    rw [List.flatMap_cons, List.length_append, reL_length, this, List.length_cons]
    omega
theorem rows_snoc (rs : List RE) (r : RE) : rows (rs ++ [r]) = rows rs ++ reL r.star r.set := by simp [rows]
/-- A pattern that is being made. -/
def RSt (w : World) (n : Nat) (s : ByteArray) (rs : List RE) : Prop :=
  ∃ (p : Option Addr) (c : Nat), w.heap[n]? = some (.cells #[.string s, .slice p rs.length c] 129 (0, 0)) ∧ w.ownsRow (n + 1) 160 129 (.slice p rs.length c) rs.length (rows rs)
theorem RSt.kp {w w' : World} {n : Nat} {s : ByteArray} {rs : List RE} (h : RSt w n s rs) (hk : K0 w w') : RSt w' n s rs := by
  obtain ⟨p, c, h1, h2⟩ := h
  exact ⟨p, c, hk.blk h1 (fun h => h), owns_kp h2 hk (fun _ _ h => h)⟩
def PB (w : World) (n : Nat) : Prop := ∃ v u, w.heap[n]? = some (.cells #[v, u] 129 (0, 0))
theorem PB.kp {M : Nat → Prop} {w w' : World} {n : Nat} (h : PB w n) (hk : Kp M w w') (hm : ¬ M n) : PB w' n := by
  obtain ⟨v, u, h⟩ := h; exact ⟨v, u, hk.blk h hm⟩
theorem PB.wr {w : World} {n : Nat} (h : PB w n) : WrL w n 0 2 := by obtain ⟨v, u, h⟩ := h; exact WrL_block h (by simp)
theorem PB.put {w w1 : World} {n : Nat} (h : PB w n) {v u : Value} (hp : PutB w n 0 [v, u] w1) : w1.heap[n]? = some (.cells #[v, u] 129 (0, 0)) := by
  obtain ⟨v', u', h⟩ := h; exact hp.full h rfl
theorem SetB.star {w w1 : World} {n : Nat} {b : Bool} {f : Nat → Bool} (h : SetB w n b f) {v : Bool} (hp : PutB w n 0 [.bool v] w1) : SetB w1 n v f := by
  have := hp.block h
  unfold SetB
  rw [this]
  congr 2
theorem reL_one (b : Bool) (f : Nat → Bool) : ∀ u ∈ reL b f, u.oneCell' = true := by
  intro u hu
  unfold reL at hu
  rcases List.mem_append.1 hu with h | h
  · simp at h; subst h; rfl
  · obtain ⟨j, hj, e⟩ := List.getElem_of_mem h
    have hj' : j < 128 := by rw [arrBo_length] at hj; exact hj
    have := arrBo_get f 128 0 j hj'
    rw [List.getElem?_eq_getElem hj] at this
    simp at this
    rw [← e, this]; rfl
theorem extract1 {s : ByteArray} {k : Nat} (h : k < s.size) : s.extract k (k + 1) = b1 (at8 s k) := by
  have hsz : (s.extract k (k + 1)).size = 1 := by rw [ByteArray.size_extract]; omega
  have hb := at8_byte (s := s.extract k (k + 1)) (k := 0) (by omega)
  rw [at8_extract s k (k + 1) 0 (by omega) (by omega)] at hb
  have hl : (s.extract k (k + 1)).data.toList.length = 1 := by rw [Array.length_toList]; exact hsz
  have : (s.extract k (k + 1)).data.toList = [(at8 s k).toNat.toUInt8] := by
    match hm : (s.extract k (k + 1)).data.toList, hl with
    | [a], _ => rw [hm] at hb; simp at hb; rw [hb]
  unfold b1
  cases hx : s.extract k (k + 1) with
  | mk d =>
    rw [hx] at this
    congr 1
    apply Array.toList_inj.1
    simpa using this
theorem rel_star : RelE .star ⟨true, fun _ => false⟩ := ⟨rfl, (fun h => by cases h), fun c h0 h1 h => by rw [← name_char c h0 h1]; exact h⟩
theorem rel_one (f : Nat → Bool) (hf : ∀ c : Nat, c < 128 → f c = charB c) : RelE .one ⟨false, f⟩ := ⟨rfl, fun _ c hc => by
  show hasB nameBytes c = f c
  rw [name_char c (by omega) (by omega), hf c hc], fun c h0 h1 h => by rw [← name_char c h0 h1]; exact h⟩
theorem rel_lit {s : ByteArray} {k : Nat} (h : k < s.size) (hc : charB (at8 s k) = true) (f : Nat → Bool) (hf : ∀ c : Nat, c < 128 → f c = decide ((c : Int) = at8 s k)) : RelE (.lit (s.extract k (k + 1))) ⟨false, f⟩ := by
  have hh : ∀ c : Int, 0 ≤ c → c ≤ 255 → hasB (El.lit (s.extract k (k + 1))).chars c = decide (c = at8 s k) := fun c h0 h1 => by
    show hasB (s.extract k (k + 1)) c = _
    rw [extract1 h]
    have := hasB_b1 (a := ⟨#[]⟩) (c := at8 s k) (d := c) (at8_bd s k) ⟨h0, h1⟩
    have e : (⟨#[]⟩ : ByteArray) ++ b1 (at8 s k) = b1 (at8 s k) := ByteArray.empty_append
    rw [e] at this
    rw [this]
    have : hasB ⟨#[]⟩ c = false := rfl
    rw [this, Bool.false_or]
  refine ⟨rfl, fun _ c hc => ?_, fun c h0 h1 hx => ?_⟩
  · show _ = f c
    rw [hh c (by omega) (by omega), hf c hc]
  · rw [hh c h0 h1] at hx
    have : c = at8 s k := by simpa using hx
    rw [this]; exact hc

/-- What the reference's Compile yields. -/
def RcPost (s : ByteArray) (w : World) (e : Ending) (w' : World) : Prop := K0 w w' ∧
    match compileR s with
    | .inl els => ∃ p c rs, e = .returned (.tuple #[.agg #[.string s, .slice p rs.length c], .int .i64 0, .int .i64 0]) ∧ w'.ownsRow w.heap.size 160 129 (.slice p rs.length c) rs.length (rows rs) ∧ RelEs els rs
    | .inr (o, x) => e = .returned (.tuple #[.agg #[.string ⟨#[]⟩, .slice none 0 0], .int .i64 o, .int .i64 x])
set_option maxHeartbeats 1000000 in
set_option maxRecDepth 100000 in
theorem rcompile_any (s : ByteArray) (w : World) : Calls Tryz.prog 66 #[.string s] w (RcPost s w) := by
  refine vc_rcompile s w _ ?_
  intro n w1 hn
  have p1 : PB w1 n := ⟨_, _, hn.block⟩
  have gn : w.heap.size ≤ n := hn.ge
  have k1 : K0 w w1 := hn.kp _
  have fail : ∀ (wx : World) (o : Int) (x : Int), PB wx n → K0 w wx → (∀ w', K0 w w' → RcPost s w (.returned (.tuple #[.agg #[.string ⟨#[]⟩, .slice none 0 0], .int .i64 o, .int .i64 x])) w') →
      WrL wx n 0 2 ∧ ∀ (w1 : World), PutB wx n 0 [.string ⟨#[]⟩, .slice none 0 0] w1 → ∃ (x_1 : ByteArray) (p : Option Addr) (n_1 c : Nat), AtL w1 n 0 [.string x_1, .slice p n_1 c] ∧ RcPost s w (.returned (.tuple #[.agg #[.string x_1, .slice p n_1 c], .int .i64 o, .int .i64 x])) w1 := fun wx o x hpb hkx hfin =>
    ⟨hpb.wr, fun wy hp => ⟨_, _, _, _, AtL_block (hpb.put hp) rfl, hfin wy (hkx.fresh hp.kp (fun i hi e => by omega))⟩⟩
  rw [toList_nil]
  refine bsp_intro (fun h0 => ?_) (fun h0 => bsp_intro (fun h1 => ?_) (fun h1 => ?_))
  · have h0 : s.size = 0 := by simpa using h0
    exact fail w1 0 4 p1 k1 (fun w' hk => ⟨hk, by simp only [compileR, h0, if_true]; rfl⟩)
  · have h0 : ¬ s.size = 0 := by simpa using h0
    have h1 : 80 < s.size := by simp at h1; omega
    exact fail w1 80 5 p1 k1 (fun w' hk => ⟨hk, by simp only [compileR, h0, h1, if_true, if_false]; rfl⟩)
  have h0 : ¬ s.size = 0 := by simpa using h0
  have h1 : ¬ 80 < s.size := by simp at h1; omega
  have hR : compileR s = compS s s.size 0 [] := by simp only [compileR, h0, h1, if_false]
  intro n1 w2 hn1
  have hn1' : n < n1 := by have := hn.size; have := hn1.hn; omega
  refine ⟨WrL_block hn1.block (by simp), fun w3 hp3 => ?_⟩
  have k13 : K0 w1 w3 := (hn1.kp (fun _ => False)).fresh hp3.kp (fun i hi e => by have := hn1.hn; omega)
  have st3 : RSt w3 n1 s [] := ⟨none, 0, hp3.full hn1.block rfl, World.ownsRow_nil _ _ _ _⟩
  -- one element more
  have app : ∀ (b : Bool) (f : Nat → Bool) (rs : List RE) (wa : World), RSt wa n1 s rs → PB wa n → K0 w wa → rs.length ≤ 80 →
      ∃ (p : Option Addr) (n_3 c : Nat), wa.cell? (Addr.mk n1 (0 + 1) none) = some (.slice p n_3 c) ∧ ∀ (n_2 : Nat), SetB wa n_2 b f → ∃ (x_2 : Bool) (f' : Nat → Bool), AtL wa n_2 0 ([Value.bool x_2] ++ arrBo f' 128 0) ∧ ∀ (n_4 : Nat) (wb : World), NewB wa (.cells ([Value.bool x_2] ++ arrBo f' 128 0).toArray 160) n_4 wb → ∀ (Y : World → Prop), (∀ w2, RSt w2 n1 s (rs ++ [⟨b, f⟩]) → PB w2 n → K0 w w2 → Y w2) →
        ∃ (base : Nat) (xs news : List Value), wb.ownsRow base 160 129 (.slice p n_3 c) n_3 xs ∧ news.length = 129 ∧ SrcP wb (some (Addr.mk n_4 0 none)) news ∧ n_3 + 1 ≤ 9223372036854775807 ∧ (n_3 + 1) * 129 ≤ 140737488355328 ∧ base ≤ wb.heap.size ∧
          ∀ (p' : Option Addr) (c' : Nat) (w' : World), w'.ownsRow base 160 129 (.slice p' (n_3 + 1) c') (n_3 + 1) (xs ++ news) → wb.grownBy w' (Value.slice p n_3 c).ownBlock → (n_3 + 1 ≤ c → p' = p ∧ c' = c) →
            ((∃ (u : Value), w'.cell? (Addr.mk n1 (0 + 1) none) = some u) ∧ w'.frozen? (Addr.mk n1 (0 + 1) none) = false) ∧ ∀ (w1 : World), PutB w' n1 (0 + 1) [Value.slice p' (n_3 + 1) c'] w1 → Y w1 := by
    intro b f rs wa ⟨p, c, hb, ho⟩ hpb hwa hlen
    refine ⟨p, rs.length, c, cell_at hb rfl, fun n_2 hs => ⟨b, f, hs.at_, fun n_4 wb hn4 Y hY => ?_⟩⟩
    refine app1 ho (block_lt hb) hn4 (by simp [arrBo_length]) (fun u hu => reL_one b f u hu) (by omega) (by omega) (fun p' c' w' ho' hk' _ => ?_)
    have hne : ∀ k, (Value.slice p rs.length c).ownBlock = some k → ¬ n1 = k := fun k hk e => by have := own_ge ho hk; omega
    have hb' : w'.heap[n1]? = some (.cells #[.string s, .slice p rs.length c] 129 (0, 0)) := hk'.blk hb (fun e => hne _ e rfl)
    refine ⟨cell_wr hb' (by simp), fun w2 hp => hY w2 ⟨p', c', ?_, ?_⟩ ((hpb.kp hk' (fun e => by have := own_ge ho e; omega)).kp hp.kp (fun e => by omega)) ?_⟩
    · rw [List.length_append]; exact hp.block hb'
    · rw [rows_snoc, List.length_append]
      have : ([Value.bool b] ++ arrBo f 128 0).toArray.toList = reL b f := rfl
      rw [this] at ho'
      exact owns_kp ho' hp.kp (fun k hk e => by have := own_ge ho' hk; omega)
    · have := hwa.size
      exact (hwa.fresh hk' (fun i hi e => by have := own_ge ho e; omega)).fresh hp.kp (fun i hi e => by omega)
  refine ⟨fun vs w' => ∃ (k f : Nat) (acc : List El) (rs : List RE), vs = [.int .i64 k] ∧ k ≤ s.size ∧ s.size - k ≤ f ∧ acc.length ≤ k ∧ compS s f k acc = compS s s.size 0 [] ∧ RelEs acc rs ∧ RSt w' n1 s rs ∧ PB w' n ∧ K0 w w',
    fun vs _ => (match vs with | .int _ x :: _ => s.size - x.toNat | _ => 0), ⟨0, s.size, [], [], rfl, by omega, by omega, by simp, rfl, ⟨rfl, fun j e r h _ => by simp at h⟩, st3, p1.kp k13 (fun h => h), k1.trans k13⟩, fun x w' ⟨k, f, acc, rs, hv, hk, hf, hacc, hS, hrel, hst, hpb, hw⟩ => ?_⟩
  have hv : x = (k : Int) := by simpa using hv
  subst hv
  have hrl : rs.length ≤ k := by rw [← hrel.len]; exact hacc
  refine bsp_intro (fun hlt => ?_) (fun hge => ?_)
  · have hlt : k < s.size := by simpa using hlt
    obtain ⟨f, rfl⟩ : ∃ g, f = g + 1 := ⟨f - 1, by omega⟩
    have e0 : (k : Int).toNat = k := by omega
    rw [e0]
    have hin : 0 ≤ (k : Int) ∧ (k : Int) < (s.size : Int) := by omega
    intro n2 w4 hn2
    have b4 : SetB w4 n2 false (fun _ => false) := setB_new (by kernel_rfl) hn2
    have g2 : w'.heap.size ≤ n2 := hn2.ge
    have k4 : K0 w' w4 := hn2.kp _
    refine ⟨fun vs wx => ∃ (b : Bool) (g : Nat → Bool) (el : El), vs = [.int .i64 (k : Int)] ∧ SetB wx n2 b g ∧ RelE el ⟨b, g⟩ ∧ compS s f (k + 1) (acc ++ [el]) = compS s s.size 0 [] ∧ K0 w' wx, ⟨hin, ?_⟩, fun x_1 wx ⟨b, g, el, hv, hs, hre, hcs, hkx⟩ => ?_⟩
    · refine bsp_intro (fun c1 => ⟨cell_wr b4 (by simp [reL]), fun w5 hp => ⟨true, fun _ => false, .star, rfl, b4.star hp, rel_star, ?_, k4.fresh hp.kp (fun i hi e => by omega)⟩⟩) (fun c1 => ⟨hin, bsp_intro (fun c2 => ?_) (fun c2 => ⟨hin, bsp_intro (fun c3 => ?_) (fun c3 => ⟨hin, bsp_intro (fun c4 => ?_) (fun c4 => ?_)⟩)⟩)⟩)
      · rw [← hS]
        have : (at8 s k == 63) = false := by
          have : at8 s k = 42 := by simpa using c1
          rw [this]; rfl
        simp [compS, hlt, this, c1]
      · refine ⟨fun vs wx => ∃ m : Nat, vs = [.int .i64 m] ∧ m ≤ 128 ∧ SetB wx n2 false (fun d => decide (d < m) && charB d) ∧ K0 w' wx, fun vs _ => (match vs with | .int _ x :: _ => 128 - x.toNat | _ => 0), ⟨0, rfl, by omega, b4.congr (fun d _ => by simp), k4⟩, ?_⟩
        rintro x wy ⟨m, hv, hm, hby, hky⟩
        have hv : x = (m : Int) := by simpa using hv
        subst hv
        refine bsp_intro (fun hlm => ?_) (fun hgm => ?_)
        · have hlm : m < 128 := by simp at hlm; omega
          have eu : IntKind.u8.wrap (m : Int) = (m : Int) := IntWalk.u8_in m ⟨by omega, by omega⟩
          rw [eu, Int.toNat_natCast]
          refine ⟨⟨by omega, by omega⟩, hby.wr hlm, fun wz hp => ⟨⟨m + 1, ?_, by omega, (hby.put hp).congr (fun d _ => ?_), hky.fresh hp.kp (fun i hi e => by omega)⟩, ?_⟩⟩
          · rw [wr64 (by omega) (by omega)]; rfl
          · show (if d = m then charB m else (decide (d < m) && charB d)) = (decide (d < m + 1) && charB d)
            by_cases e : d = m
            · subst e; simp
            · rw [if_neg e]
              have : decide (d < m) = decide (d < m + 1) := by rw [decide_eq_decide]; omega
              rw [this]
          · rw [wr64 (by omega) (by omega)]
            simp only
            omega
        · have hgm : ¬ m < 128 := by simp at hgm; omega
          refine ⟨false, _, .one, rfl, hby, rel_one _ (fun c hc => ?_), ?_, hky⟩
          · have : decide (c < m) = true := by simp; omega
            rw [this, Bool.true_and]
          · rw [← hS]
            simp [compS, hlt, c2]
      · have c3' : at8 s k = 91 := by simpa using c3
        refine ⟨(rclass_any s k w4 hlt c3' (by omega)).mono fun e w5 ⟨hk5, he⟩ => ?_⟩
        have hcs0 : compS s (f + 1) k acc = if clsN (s.extract k s.size) = 0 then .inr (k, 3) else compS s f (k + clsN (s.extract k s.size)) (acc ++ [.cls (clsS (s.extract k s.size))]) := by simp [compS, hlt, c1, c2, c3]
        have hxs : (s.extract k s.size).size = s.size - k := by rw [ByteArray.size_extract]; omega
        have hle := clsN_le (s.extract k s.size) (by omega)
        rcases he with ⟨h0, b, g, he⟩ | ⟨h0, g, he, hre⟩
        · refine ⟨b, g, _, he, fun n3 w6 hn3 => ?_⟩
          have b6 : SetB w6 n3 false (fun _ => false) := setB_new (by kernel_rfl) hn3
          refine ⟨b6.wrl, fun w7 hp7 => bsp_intro (fun _ => ?_) (fun h => absurd h (by decide))⟩
          have k7 : K0 w' w7 := ((k4.trans hk5).trans (hn3.kp _)).fresh hp7.kp (fun i hi e => by have := (k4.trans hk5).size; have := hn3.ge; omega)
          refine fail w7 k 3 (hpb.kp k7 (fun h => h)) (hw.trans k7) (fun w' hk => ⟨hk, ?_⟩)
          rw [hR, ← hS, hcs0, if_pos h0]
        · refine ⟨false, g, _, he, fun n3 w6 hn3 => ?_⟩
          have b6 : SetB w6 n3 false (fun _ => false) := setB_new (by kernel_rfl) hn3
          refine ⟨b6.wrl, fun w7 hp7 => bsp_intro (fun h => ?_) (fun _ => ?_)⟩
          · exfalso; simp at h; omega
          have k7 : K0 w' w7 := ((k4.trans hk5).trans (hn3.kp _)).fresh hp7.kp (fun i hi e => by have := (k4.trans hk5).size; have := hn3.ge; omega)
          have b7 : SetB w7 n3 false g := b6.full hp7
          rw [if_neg h0] at hcs0
          obtain ⟨p, n_3, c, q1, q2⟩ := app false g rs w7 (hst.kp k7) (hpb.kp k7 (fun h => h)) (hw.trans k7) (by omega)
          obtain ⟨x2, f2, q3, q4⟩ := q2 n3 b7
          refine ⟨p, n_3, c, q1, x2, f2, q3, fun n4 w8 hn4 => q4 n4 w8 hn4 _ (fun w9 r1 r2 r3 => ⟨⟨k + clsN (s.extract k s.size), f, _, _, rfl, by omega, by omega, ?_, hcs0.symm.trans hS, hrel.snoc hre, r1, r2, r3⟩, ?_⟩)⟩
          · simp; omega
          · simp only; omega
      · have hcb := charB_lt c4
        refine ⟨hin, ⟨hcb.1, hcb.2⟩, b4.wr (by omega), fun w5 hp => ⟨false, _, .lit (s.extract k (k + 1)), rfl, b4.put hp, rel_lit hlt c4 _ (fun c hc => ?_), ?_, k4.fresh hp.kp (fun i hi e => by omega)⟩⟩
        · show (if c = (at8 s k).toNat then true else false) = decide ((c : Int) = at8 s k)
          by_cases e : c = (at8 s k).toNat
          · rw [if_pos e]; simp; omega
          · rw [if_neg e]; simp; omega
        · rw [← hS]
          have : hasB nameBytes (at8 s k) = true := by rw [name_char _ hcb.1 (by omega)]; exact c4
          simp [compS, hlt, c1, c2, c3, this]
      · refine fail w4 k 6 (hpb.kp k4 (fun h => h)) (hw.trans k4) (fun w' hk => ⟨hk, ?_⟩)
        rw [hR, ← hS]
        have : hasB nameBytes (at8 s k) = false := by rw [name_char _ (at8_bd s k).1 (at8_bd s k).2]; exact c4
        simp only [compS, hlt, if_true, c1, c2, c3, this, Bool.false_eq_true, if_false]
    · have hv : x_1 = (k : Int) := by simpa using hv
      subst hv
      rw [wr64 (by omega) (by omega)]
      obtain ⟨p, n_3, c, q1, q2⟩ := app b g rs wx (hst.kp hkx) (hpb.kp hkx (fun h => h)) (hw.trans hkx) (by omega)
      obtain ⟨x2, f2, q3, q4⟩ := q2 n2 hs
      refine ⟨p, n_3, c, q1, x2, f2, q3, fun n4 w8 hn4 => q4 n4 w8 hn4 _ (fun w9 r1 r2 r3 => ⟨⟨k + 1, f, _, _, rfl, by omega, by omega, ?_, hcs, hrel.snoc hre, r1, r2, r3⟩, ?_⟩)⟩
      · simp; omega
      · simp only; omega
  · have hge : ¬ k < s.size := by simpa using hge
    have hc : compS s f k acc = .inl acc := by cases f <;> simp [compS, hge]
    obtain ⟨p, c, hb, ho⟩ := hst
    refine ⟨_, _, _, _, AtL_block hb rfl, hpb.wr, fun wy hp => ⟨_, _, _, _, AtL_block (hpb.put hp) rfl, hw.fresh hp.kp (fun i hi e => by omega), ?_⟩⟩
    rw [hR, ← hS, hc]
    refine ⟨p, c, rs, rfl, ?_, hrel⟩
    have ho' := owns_kp ho hp.kp (fun k hk e => by have := own_ge ho hk; omega)
    exact ⟨ho'.1, ho'.2.imp id fun ⟨g, cap, cur, a1, a2, a3⟩ => ⟨g, cap, cur, a1, by omega, a3⟩⟩

end Go.Proofs.YtkkfnlehlkiejaaGreatDoor

/- The formulas of functions by the symbolic evaluator, and that each gives the call's contract. Written by a program (gen.py). No condition. -/
namespace Go.Proofs.YtkkfnlehlkiejaaGreatDoor
set_option maxRecDepth 100000
set_option linter.unusedVariables false

def VC_rparseList (s : ByteArray) (w : World) (R : Ending → World → Prop) : Prop :=
 bsp (s.toList == [])
 (R (Ending.returned (Value.tuple #[Value.slice none 0 0, Value.int IntKind.i64 0, Value.int IntKind.i64 4])) w)
 (∃ (I : List Value → World → Prop),
 ∃ (m : List Value → World → Nat),
 I [Value.int IntKind.i64 0, Value.int IntKind.i64 0, Value.slice none 0 0] w ∧
 ∀ (x x_1 : Int) (p : Option Addr) (n c : Nat) (w' : World),
 I [Value.int IntKind.i64 x, Value.int IntKind.i64 x_1, Value.slice p n c] w' →
 bsp (decide (x ≤ (↑s.size : Int)))
 (gimp (decide (x < (↑s.size : Int))) (0 ≤ x ∧ x < (↑s.size : Int)) ∧
 bsp (decide (x < (↑s.size : Int)) && at8 s x.toNat != 44)
 (I [Value.int IntKind.i64 (IntKind.i64.wrap (x + 1)), Value.int IntKind.i64 x_1, Value.slice p n c] w' ∧
 m [Value.int IntKind.i64 (IntKind.i64.wrap (x + 1)), Value.int IntKind.i64 x_1, Value.slice p n c] w' <
 m [Value.int IntKind.i64 x, Value.int IntKind.i64 x_1, Value.slice p n c] w')
 (bsp ((↑n : Int) == 64)
 (R (Ending.returned (Value.tuple #[Value.slice none 0 0, Value.int IntKind.i64 x_1, Value.int IntKind.i64 9]))
 w')
 (∀ (n_1 : Nat) (w1 : World),
 NewB w' (Obj.cells #[Value.int IntKind.i64 0, Value.string (ByteArray.mk #[]), Value.slice none 0 0] 131) n_1
 w1 →
 WrL w1 n_1 0 3 ∧
 ∀ (w1_1 : World),
 PutB w1 n_1 0 [Value.int IntKind.i64 1, Value.string (ByteArray.mk #[]), Value.slice none 0 0] w1_1 →
 ∃ (J : List Value → World → Prop),
 (gimp (decide (x_1 < x)) (0 ≤ x_1 ∧ x_1 < (↑s.size : Int)) ∧
 bsp (decide (x_1 < x) && at8 s x_1.toNat == 33)
 (((∃ (u : Value), w1_1.cell? (Addr.mk n_1 0 none) = some u) ∧
 w1_1.frozen? (Addr.mk n_1 0 none) = false) ∧
 ∀ (w1 : World),
 PutB w1_1 n_1 0 [Value.int IntKind.i64 2] w1 →
 J [Value.int IntKind.i64 (IntKind.i64.wrap (x_1 + 1))] w1)
 (gimp (decide (x_1 < x)) (0 ≤ x_1 ∧ x_1 < (↑s.size : Int)) ∧
 bsp (decide (x_1 < x) && at8 s x_1.toNat == 64)
 (((∃ (u : Value), w1_1.cell? (Addr.mk n_1 0 none) = some u) ∧
 w1_1.frozen? (Addr.mk n_1 0 none) = false) ∧
 ∀ (w1 : World),
 PutB w1_1 n_1 0 [Value.int IntKind.i64 3] w1 →
 J [Value.int IntKind.i64 (IntKind.i64.wrap (x_1 + 1))] w1)
 (J [Value.int IntKind.i64 x_1] w1_1))) ∧
 ∀ (x_2 : Int) (w'_1 : World),
 J [Value.int IntKind.i64 x_2] w'_1 →
 (0 ≤ x_2 ∧ x_2 ≤ x ∧ x ≤ (↑s.size : Int)) ∧
 CallsS Tryz.prog 66 #[Value.string (s.extract x_2.toNat x.toNat)] w'_1
 fun (e : Ending) (w'_2 : World) =>
 ∃ (x_3 : ByteArray),
 ∃ (p_1 : Option Addr),
 ∃ (n_2 : Nat),
 ∃ (c_1 : Nat),
 ∃ (x_4 : Int),
 ∃ (x_5 : Int),
 e =
 Ending.returned
 (Value.tuple
 #[Value.agg #[Value.string x_3, Value.slice p_1 n_2 c_1], Value.int IntKind.i64 x_4,
 Value.int IntKind.i64 x_5]) ∧
 ∀ (n_3 : Nat) (w1 : World),
 NewB w'_2 (Obj.cells #[Value.string (ByteArray.mk #[]), Value.slice none 0 0] 129) n_3 w1 →
 WrL w1 n_3 0 2 ∧
 ∀ (w1_2 : World),
 PutB w1 n_3 0 [Value.string x_3, Value.slice p_1 n_2 c_1] w1_2 →
 bsp (x_5 != 0)
 (R
 (Ending.returned
 (Value.tuple
 #[Value.slice none 0 0, Value.int IntKind.i64 (IntKind.i64.wrap (x_2 + x_4)),
 Value.int IntKind.i64 x_5]))
 w1_2)
 (∃ (x_6 : ByteArray),
 ∃ (p_2 : Option Addr),
 ∃ (n_4 : Nat),
 ∃ (c_2 : Nat),
 AtL w1_2 n_3 0 [Value.string x_6, Value.slice p_2 n_4 c_2] ∧
 WrL w1_2 n_1 (0 + 1) 2 ∧
 ∀ (w1 : World),
 PutB w1_2 n_1 (0 + 1) [Value.string x_6, Value.slice p_2 n_4 c_2] w1 →
 ∃ (x_7 : Int),
 ∃ (x_8 : ByteArray),
 ∃ (p_3 : Option Addr),
 ∃ (n_5 : Nat),
 ∃ (c_3 : Nat),
 AtL w1 n_1 0
 [Value.int IntKind.i64 x_7, Value.string x_8,
 Value.slice p_3 n_5 c_3] ∧
 ∀ (n_6 : Nat) (w1_3 : World),
 NewB w1
 (Obj.cells
 #[Value.int IntKind.i64 x_7, Value.string x_8,
 Value.slice p_3 n_5 c_3]
 131)
 n_6 w1_3 →
 ∃ (base : Nat),
 ∃ (xs : List Value),
 ∃ (news : List Value),
 w1_3.ownsRow base 131 3 (Value.slice p n c) n xs ∧
 news.length = 3 ∧
 SrcP w1_3 (some (Addr.mk n_6 0 none)) news ∧
 n + 1 ≤ 9223372036854775807 ∧
 (n + 1) * 48 ≤ 140737488355328 ∧
 base ≤ w1_3.heap.size ∧
 ∀ (p' : Option Addr) (c' : Nat) (w'_3 : World),
 w'_3.ownsRow base 131 3 (Value.slice p' (n + 1) c') (n + 1)
 (xs ++ news) →
 w1_3.grownBy w'_3 (Value.slice p n c).ownBlock →
 (n + 1 ≤ c → p' = p ∧ c' = c) →
 I
 [Value.int IntKind.i64 (IntKind.i64.wrap (x + 1)),
 Value.int IntKind.i64 (IntKind.i64.wrap (x + 1)),
 Value.slice p' (n + 1) c']
 w'_3 ∧
 m
 [Value.int IntKind.i64 (IntKind.i64.wrap (x + 1)),
 Value.int IntKind.i64 (IntKind.i64.wrap (x + 1)),
 Value.slice p' (n + 1) c']
 w'_3 <
 m
 [Value.int IntKind.i64 x, Value.int IntKind.i64 x_1,
 Value.slice p n c]
 w'))))
 (R (Ending.returned (Value.tuple #[Value.slice p n c, Value.int IntKind.i64 0, Value.int IntKind.i64 0])) w'))
theorem vc_rparseList (s : ByteArray) (w : World) (R : Ending → World → Prop) (h : VC_rparseList s w R) : Calls Tryz.prog 45 ([Value.string
    s] : List Value).toArray w R := by
  have e : execR { P := Tryz.prog, loops := [(6, [(7, Ck.int IntKind.i64), (6, Ck.int IntKind.i64), (5, Ck.slice)])], pur := pur1, tails := [], joins := [(19, [(9, Ck.int IntKind.i64)])], boxes := [] } Tryz.f45.results.toList R (Tryz.f45.body.getD .skip) (initF [Value.string
    s] (Tryz.f45.ntmps - ([Value.string s] : List Value).length)) w = VC_rparseList s w R := by kernel_rfl
  have hb : Tryz.f45.body = some (Tryz.f45.body.getD .skip) := by kernel_rfl
  exact calls_of_exec' (P := Tryz.prog) (fn := Tryz.f45) (c := Tryz.f45.body.getD .skip) (args := [Value.string
    s]) (w := w) (R := R) pur1_ok Tryz.func45 hb e h

end Go.Proofs.YtkkfnlehlkiejaaGreatDoor

/- The contract of the reference's ParseList: it agrees with the program's. The text has at most 2^30 bytes. -/
namespace Go.Proofs.YtkkfnlehlkiejaaGreatDoor
open Go.RowKit

/-- An entry of the reference's list, and where its elements lie. -/
abbrev RItA := REnt × Option Addr × Nat
def ritC (x : RItA) : List Value := [.int .i64 x.1.v, .string x.1.t, .slice x.2.1 x.1.rs.length x.2.2]
/-- The reference's list in the memory. -/
structure RLst (base : Nat) (w : World) (p : Option Addr) (n c : Nat) (L : List RItA) : Prop where
  len : n = L.length
  row : w.ownsRow base 131 3 (.slice p n c) n (L.flatMap ritC)
  els : ∀ x ∈ L, w.ownsRow base 160 129 (.slice x.2.1 x.1.rs.length x.2.2) x.1.rs.length (rows x.1.rs)
theorem RLst.kp {base : Nat} {w w' : World} {p : Option Addr} {n c : Nat} {L : List RItA} (h : RLst base w p n c L) (hk : K0 w w') : RLst base w' p n c L :=
  ⟨h.len, owns_kp h.row hk (fun _ _ h => h), fun x hx => owns_kp (h.els x hx) hk (fun _ _ h => h)⟩
theorem hp1 (x : ByteArray) (c : UInt8) : Lib.hasPrefix x.data.toList [c] = (decide (0 < x.size) && at8 x 0 == (c.toNat : Int)) := by
  have hl : x.data.toList.length = x.size := x.data.length_toList
  cases hd : x.data.toList with
  | nil =>
    rw [hd] at hl
    have : ¬ 0 < x.size := by simp at hl; omega
    simp [this, Lib.hasPrefix]
  | cons a r =>
    have h0 : 0 < x.size := by rw [hd] at hl; simp at hl; omega
    have g := at8_byte h0
    rw [hd] at g
    simp at g
    have hb := at8_bd x 0
    have ea : at8 x 0 = (a.toNat : Int) := by
      rw [g, UInt8.toNat_ofNat']
      omega
    rw [ea]
    simp only [Lib.hasPrefix, List.isPrefixOf, h0, decide_true, Bool.true_and, Bool.and_true]
    rw [Bool.eq_iff_iff]
    simp only [beq_iff_eq]
    constructor
    · rintro rfl; rfl
    · intro h
      apply UInt8.toNat_inj.1
      omega
theorem ext_ext (s : ByteArray) (a b i j : Nat) (h : a + j ≤ b) : (s.extract a b).extract i j = s.extract (a + i) (a + j) := by
  rw [ByteArray.extract_extract]
  congr 1
  omega

set_option maxHeartbeats 1000000 in
theorem rparseList_any (s : ByteArray) (w : World) (hs : s.size ≤ 1073741824) : Calls Tryz.prog 45 #[.string s] w fun e w' => K0 w w' ∧
    match listR s with
    | .inl es => ∃ p n c L, e = .returned (.tuple #[.slice p n c, .int .i64 0, .int .i64 0]) ∧ RLst w.heap.size w' p n c L ∧ RelEnts es (L.map (·.1))
    | .inr (o, x) => e = .returned (.tuple #[.slice none 0 0, .int .i64 o, .int .i64 x]) := by
  refine vc_rparseList s w _ ?_
  unfold VC_rparseList
  rw [toList_nil]
  refine bsp_intro (fun h0 => ⟨.refl _ _, ?_⟩) (fun h0 => ?_)
  · have h0 : s.size = 0 := by simpa using h0
    unfold listR; rw [if_pos h0]
  have h0 : ¬ s.size = 0 := by simpa using h0
  have hR : listR s = entsS (partsS s) 0 [] := by unfold listR; rw [if_neg h0]
  rw [hR]
  generalize hG : entsS (partsS s) 0 [] = G
  refine ⟨fun vs w' => ∃ (i fr : Nat) (acc : List Ent) (p : Option Addr) (n c : Nat) (L : List RItA), vs = [.int .i64 i, .int .i64 fr, .slice p n c] ∧ i ≤ s.size + 1 ∧ RelEnts acc (L.map (·.1)) ∧ RLst w.heap.size w' p n c L ∧ K0 w w' ∧ acc.length ≤ 64 ∧
      ((i ≤ s.size ∧ fr ≤ i ∧ entsS (partsS (s.extract fr s.size)) fr acc = G ∧ ∀ j, fr ≤ j → j < i → at8 s j ≠ 44) ∨ (i = s.size + 1 ∧ G = .inl acc)),
    fun vs _ => (match vs with | .int _ x :: _ => s.size + 1 - x.toNat | _ => 0), ⟨0, 0, [], none, 0, 0, [], rfl, by omega, ⟨rfl, fun j e r h _ => by simp at h⟩, ⟨rfl, World.ownsRow_nil _ _ _ _, fun x hx => by cases hx⟩, .refl _ _, by simp, .inl ⟨by omega, by omega, ?_, fun j _ hj => by omega⟩⟩, ?_⟩
  · rw [show s.extract 0 s.size = s from ByteArray.extract_zero_size]; exact hG
  rintro x x1 p n c w' ⟨i, fr, acc, p', n', c', L, hv, hi, hrel, hL, hk, h64, hst⟩
  simp only [List.cons.injEq, Value.int.injEq, Value.slice.injEq, true_and, and_true] at hv
  obtain ⟨rfl, rfl, rfl, rfl, rfl⟩ := hv
  have hnl : n = acc.length := by rw [hL.len, hrel.len, List.length_map]
  refine bsp_intro (fun hle => ?_) (fun hgt => ?_)
  · have hle : i ≤ s.size := by simp at hle; omega
    obtain ⟨_, hfr, hE, hno⟩ : i ≤ s.size ∧ fr ≤ i ∧ entsS (partsS (s.extract fr s.size)) fr acc = G ∧ ∀ j, fr ≤ j → j < i → at8 s j ≠ 44 := by
      rcases hst with h | h
      · exact h
      · omega
    have ei : (i : Int).toNat = i := by omega
    rw [ei, wr64 (x := (i : Int) + 1) (by omega) (by omega)]
    refine ⟨gimp_intro fun h => ⟨by omega, by simpa using h⟩, bsp_intro (fun hc => ?_) (fun hc => ?_)⟩
    · have hlt : i < s.size := by simp at hc; omega
      have h44 : at8 s i ≠ 44 := by simp at hc; exact hc.2
      refine ⟨⟨i + 1, fr, acc, p, n, c, L, by congr 2, by omega, hrel, hL, hk, h64, .inl ⟨by omega, by omega, hE, fun j h1 h2 => ?_⟩⟩, by simp only; omega⟩
      by_cases e : j = i
      · rw [e]; exact h44
      · exact hno j h1 (by omega)
    -- a part ends here
    have hrsz : (s.extract fr s.size).size = s.size - fr := by rw [ByteArray.size_extract]; omega
    obtain ⟨ps, hps, hnx⟩ : ∃ ps, partsS (s.extract fr s.size) = s.extract fr i :: ps ∧ ∀ acc', entsS ps ((i : Int) + 1) acc' = (if i < s.size then entsS (partsS (s.extract (i + 1) s.size)) ((i : Int) + 1) acc' else .inl acc') := by
      by_cases hlt : i < s.size
      · have h44 : at8 s i = 44 := by
          have : decide ((i : Int) < (s.size : Int)) = true := by simp; omega
          rw [this] at hc
          simpa using hc
        refine ⟨_, ?_, fun acc' => (if_pos hlt).symm⟩
        have := parts_hit (s := s.extract fr s.size) (i := i - fr) (by omega) (by rw [at8_extract s fr s.size (i - fr) (by omega) (Nat.le_refl _), show fr + (i - fr) = i by omega]; exact h44) (fun j hj => by
          rw [at8_extract s fr s.size j (by omega) (Nat.le_refl _)]; exact hno _ (by omega) (by omega))
        rw [this, ext_ext s fr s.size 0 (i - fr) (by omega), hrsz, ext_ext s fr s.size (i - fr + 1) (s.size - fr) (by omega)]
        rw [show fr + 0 = fr by omega, show fr + (i - fr) = i by omega, show fr + (i - fr + 1) = i + 1 by omega, show fr + (s.size - fr) = s.size by omega]
      · have e : i = s.size := by omega
        refine ⟨[], ?_, fun acc' => by rw [if_neg hlt]; rfl⟩
        rw [parts_miss (fun j hj => by rw [at8_extract s fr s.size j (by omega) (Nat.le_refl _)]; exact hno _ (by omega) (by omega)), e]
    rw [hps] at hE
    generalize hpt : s.extract fr i = part at *
    have psz : part.size = i - fr := by rw [← hpt, ByteArray.size_extract]; omega
    have pat : 0 < part.size → at8 part 0 = at8 s fr := fun h => by rw [← hpt, at8_extract s fr i 0 (by omega) hle]; rfl
    unfold entsS at hE
    refine bsp_intro (fun hn => ⟨hk, ?_⟩) (fun hn => ?_)
    · have hn : acc.length = 64 := by simp at hn; omega
      rw [if_pos hn] at hE
      rw [← hE]
    have hn : ¬ acc.length = 64 := by simp at hn; omega
    rw [if_neg hn] at hE
    intro n1 w1 hn1
    refine ⟨WrL_block hn1.block (by simp), fun w2 hp2 => ?_⟩
    have b2 : w2.heap[n1]? = some (.cells #[.int .i64 1, .string ⟨#[]⟩, .slice none 0 0] 131 (0, 0)) := hp2.full hn1.block rfl
    have g1 : w'.heap.size ≤ n1 := hn1.ge
    have k2 : K0 w' w2 := (hn1.kp _).fresh hp2.kp (fun i hi e => by omega)
    have efr : (fr : Int).toNat = fr := by omega
    rw [efr, wr64 (x := (fr : Int) + 1) (by omega) (by omega)]
    -- the mark of a part
    have h33 : (decide ((fr : Int) < (i : Int)) && at8 s fr == 33) = Lib.hasPrefix part.data.toList [33] := by
      rw [hp1]
      by_cases h : fr < i
      · have h1 : decide ((fr : Int) < (i : Int)) = true := by simp; omega
        have h2 : decide (0 < part.size) = true := decide_eq_true (by omega)
        rw [h1, h2, pat (by omega)]; rfl
      · have h1 : decide ((fr : Int) < (i : Int)) = false := by simp; omega
        have h2 : decide (0 < part.size) = false := decide_eq_false (by omega)
        rw [h1, h2]; rfl
    have h64' : (decide ((fr : Int) < (i : Int)) && at8 s fr == 64) = Lib.hasPrefix part.data.toList [64] := by
      rw [hp1]
      by_cases h : fr < i
      · have h1 : decide ((fr : Int) < (i : Int)) = true := by simp; omega
        have h2 : decide (0 < part.size) = true := decide_eq_true (by omega)
        rw [h1, h2, pat (by omega)]; rfl
      · have h1 : decide ((fr : Int) < (i : Int)) = false := by simp; omega
        have h2 : decide (0 < part.size) = false := decide_eq_false (by omega)
        rw [h1, h2]; rfl
    rw [h33, h64']
    have hgi : gimp (decide ((fr : Int) < (i : Int))) (0 ≤ (fr : Int) ∧ (fr : Int) < (s.size : Int)) := gimp_intro fun h => ⟨by omega, by simp at h; omega⟩
    refine ⟨fun vs wx => ∃ d : Nat, vs = [.int .i64 ((fr + d : Nat) : Int)] ∧ fr + d ≤ i ∧ bareS part = s.extract (fr + d) i ∧ wx.heap[n1]? = some (.cells #[.int .i64 (markI part), .string ⟨#[]⟩, .slice none 0 0] 131 (0, 0)) ∧ K0 w' wx, ?_, ?_⟩
    · have one : ∀ (m : Int) (wx : World), (Lib.hasPrefix part.data.toList [33] = true ∨ Lib.hasPrefix part.data.toList [64] = true) → markI part = m → PutB w2 n1 0 [.int .i64 m] wx → ∃ d : Nat, [Value.int .i64 ((fr : Int) + 1)] = [Value.int .i64 ((fr + d : Nat) : Int)] ∧ fr + d ≤ i ∧ bareS part = s.extract (fr + d) i ∧ wx.heap[n1]? = some (.cells #[.int .i64 (markI part), .string ⟨#[]⟩, .slice none 0 0] 131 (0, 0)) ∧ K0 w' wx := fun m wx hor hm hp => by
        have hpos : 1 ≤ part.size := by rcases hor with h | h <;> exact hasPrefix1 h
        refine ⟨1, by congr 2, by omega, ?_, ?_, k2.fresh hp.kp (fun i hi e => by omega)⟩
        · unfold bareS
          rw [if_neg (by
            unfold markI
            rcases hor with h | h
            · rw [if_pos h]; decide
            · split <;> decide)]
          rw [psz, ← hpt, ext_ext s fr i 1 (i - fr) (by omega), show fr + (i - fr) = i by omega]
        · rw [hm]; exact hp.block b2
      refine ⟨hgi, bsp_intro (fun h => ⟨cell_wr b2 (by simp), fun w3 hp3 => one 2 w3 (.inl h) (by unfold markI; rw [if_pos h]) hp3⟩) (fun h => ⟨hgi, bsp_intro (fun h' => ⟨cell_wr b2 (by simp), fun w3 hp3 => one 3 w3 (.inr h') (by unfold markI; rw [if_neg (by rw [h]; decide), if_pos h']) hp3⟩) (fun h' => ?_)⟩)⟩
      have hm : markI part = 1 := by unfold markI; rw [if_neg (by rw [h]; decide), if_neg (by rw [h']; decide)]
      refine ⟨0, by congr 2, by omega, ?_, ?_, k2⟩
      · unfold bareS; rw [if_pos hm, ← hpt]; rfl
      · rw [hm]; exact b2
    rintro x2 w3 ⟨d, hv, hd, hbare, b3, k3⟩
    have hv : x2 = ((fr + d : Nat) : Int) := by simpa using hv
    subst hv
    have ed : (((fr + d : Nat) : Int)).toNat = fr + d := Int.toNat_natCast _
    rw [ed, ← hbare]
    refine ⟨⟨by omega, by omega, by omega⟩, ⟨(rcompile_any (bareS part) w3).mono fun e w4 ⟨hk4, he⟩ => ?_⟩⟩
    have bsz : (bareS part).size = i - (fr + d) := by rw [hbare, ByteArray.size_extract]; omega
    have b4 := hk4.blk b3 (fun h => h)
    cases hc : compileR (bareS part) with
    | inr oe =>
      obtain ⟨o, er⟩ := oe
      rw [hc] at he hE
      have hoe := compileR_off _ _ _ hc
      refine ⟨_, _, _, _, _, _, he, fun n3 w5 hn3 => ⟨WrL_block hn3.block (by simp), fun w6 hp6 => bsp_intro (fun _ => ⟨?_, ?_⟩) (fun h => ?_)⟩⟩
      · exact ((hk.trans k3).trans (hk4.trans (hn3.kp _))).fresh hp6.kp (fun i hi e => by have := ((hk.trans k3).trans hk4).size; have := hn3.ge; omega)
      · rw [← hE]
        simp only
        rw [wr64 (by omega) (by omega), psz, bsz, show (fr : Int) + ((i - fr : Nat) : Int) - ((i - (fr + d) : Nat) : Int) + (o : Int) = ((fr + d : Nat) : Int) + (o : Int) by omega]
      · exfalso
        apply hoe.2
        simpa using h
    | inl els =>
      rw [hc] at he hE
      obtain ⟨q, cq, rs, he, hrow, hre⟩ := he
      refine ⟨_, _, _, _, _, _, he, fun n3 w5 hn3 => ⟨WrL_block hn3.block (by simp), fun w6 hp6 => bsp_intro (fun h => absurd h (by decide)) (fun _ => ?_)⟩⟩
      have k6 : K0 w4 w6 := (hn3.kp (fun _ => False)).fresh hp6.kp (fun i hi e => by have := hn3.ge; omega)
      have c6 := hp6.full hn3.block rfl
      have b6 := k6.blk b4 (fun h => h)
      refine ⟨_, _, _, _, AtL_block c6 rfl, WrL_block b6 (by simp), fun w7 hp7 => ?_⟩
      have b7 : w7.heap[n1]? = some (.cells #[.int .i64 (markI part), .string (bareS part), .slice q rs.length cq] 131 (0, 0)) := by
        have := hp7.block b6
        simpa [putL] using this
      have k7 : K0 w' w7 := ((k3.trans hk4).trans k6).fresh hp7.kp (fun i hi e => by omega)
      refine ⟨_, _, _, _, _, AtL_block b7 rfl, fun n6 w8 hn8 => ?_⟩
      have hL7 := hL.kp k7
      have hr7 : w7.ownsRow w.heap.size 160 129 (.slice q rs.length cq) rs.length (rows rs) := by
        have h4 : w4.ownsRow w.heap.size 160 129 (.slice q rs.length cq) rs.length (rows rs) := ⟨hrow.1, hrow.2.imp id fun ⟨g, cap, cur, a1, a2, a3⟩ => ⟨g, cap, cur, a1, by have := (hk.trans k3).size; omega, a3⟩⟩
        refine owns_kp (owns_kp h4 k6 (fun _ _ h => h)) hp7.kp (fun k hk e => ?_)
        obtain ⟨cc, hcc⟩ := own_type (owns_kp h4 k6 (fun _ _ h => h)) hk
        rw [e, b6] at hcc
        simp at hcc
      refine app1 hL7.row (hk.trans k7).size hn8 rfl (fun u hu => by simp at hu; rcases hu with rfl | rfl | rfl <;> rfl) (by omega) (by omega) (fun p9 c9 w9 ho9 hk9 _ => ?_)
      have keepE : ∀ (y : RItA), w7.ownsRow w.heap.size 160 129 (.slice y.2.1 y.1.rs.length y.2.2) y.1.rs.length (rows y.1.rs) → w9.ownsRow w.heap.size 160 129 (.slice y.2.1 y.1.rs.length y.2.2) y.1.rs.length (rows y.1.rs) := fun y hy =>
        owns_kp hy hk9 (fun k hk e => by
          obtain ⟨c1, h1⟩ := own_type hy hk
          obtain ⟨c2, h2⟩ := own_type hL7.row e
          rw [h1] at h2
          simp at h2)
      refine ⟨⟨i + 1, i + 1, acc ++ [⟨bareS part, els, markI part⟩], p9, n + 1, c9, L ++ [(⟨bareS part, rs, markI part⟩, q, cq)], by congr 2, by omega, ?_, ⟨?_, ?_, ?_⟩, ?_, ?_, ?_⟩, by simp only; omega⟩
      · rw [List.map_append]
        exact hrel.snoc ⟨rfl, rfl, hre⟩
      · rw [List.length_append, ← hL.len]; rfl
      · rw [List.flatMap_append]; exact ho9
      · intro y hy
        rcases List.mem_append.1 hy with h | h
        · exact keepE y (hL7.els y h)
        · simp at h; subst h; exact keepE _ hr7
      · exact (hk.trans k7).fresh hk9 (fun i hi e => by have := own_ge hL7.row e; omega)
      · simp; omega
      · have hE' : entsS ps ((i : Int) + 1) (acc ++ [⟨bareS part, els, markI part⟩]) = G := by
          rw [← hE]
          simp only
          congr 1
          rw [psz]; omega
        rw [hnx] at hE'
        by_cases hlt : i < s.size
        · rw [if_pos hlt] at hE'
          exact .inl ⟨by omega, by omega, hE', fun j h1 h2 => by omega⟩
        · rw [if_neg hlt] at hE'
          exact .inr ⟨by omega, hE'.symm⟩
  · have hgt : ¬ i ≤ s.size := by simp at hgt; omega
    rcases hst with h | ⟨_, hGa⟩
    · omega
    refine ⟨hk, ?_⟩
    rw [hGa]
    exact ⟨p, n, c, L, rfl, hL, hrel⟩

end Go.Proofs.YtkkfnlehlkiejaaGreatDoor

/- The formulas of functions by the symbolic evaluator, and that each gives the call's contract. Written by a program (gen.py). No condition. -/
namespace Go.Proofs.YtkkfnlehlkiejaaGreatDoor
set_option maxRecDepth 100000
set_option linter.unusedVariables false

def VC_rverdict (p : Option Addr) (n : Nat) (c : Nat) (s : ByteArray) (w : World) (R : Ending → World → Prop) : Prop :=
 ∃ (I : List Value → World → Prop),
 ∃ (m : List Value → World → Nat),
 I [Value.int IntKind.i64 0, Value.int IntKind.i64 0] w ∧
 ∀ (x x_1 : Int) (w' : World),
 I [Value.int IntKind.i64 x, Value.int IntKind.i64 x_1] w' →
 bsp (decide (x < (↑n : Int)))
 (nn true p fun (b o : Nat) =>
 (0 ≤ x ∧ x < (↑n : Int)) ∧
 ∃ (x_2 : ByteArray),
 ∃ (p_1 : Option Addr),
 ∃ (n_1 : Nat),
 ∃ (c : Nat),
 AtL w' b (o + x.toNat * 3 + 1) [Value.string x_2, Value.slice p_1 n_1 c] ∧
 CallsS Tryz.prog 69 #[Value.agg #[Value.string x_2, Value.slice p_1 n_1 c], Value.string s] w'
 fun (e : Ending) (w'_1 : World) =>
 ∃ (x_3 : Bool),
 e = Ending.returned (Value.bool x_3) ∧
 bsp x_3
 (nn true p fun (b o : Nat) =>
 (0 ≤ x ∧ x < (↑n : Int)) ∧
 ∃ (x_4 : Int),
 w'_1.cell? (Addr.mk b (o + x.toNat * 3) none) = some (Value.int IntKind.i64 x_4) ∧
 I [Value.int IntKind.i64 (IntKind.i64.wrap (x + 1)), Value.int IntKind.i64 x_4] w'_1 ∧
 m [Value.int IntKind.i64 (IntKind.i64.wrap (x + 1)), Value.int IntKind.i64 x_4] w'_1 <
 m [Value.int IntKind.i64 x, Value.int IntKind.i64 x_1] w')
 (I [Value.int IntKind.i64 (IntKind.i64.wrap (x + 1)), Value.int IntKind.i64 x_1] w'_1 ∧
 m [Value.int IntKind.i64 (IntKind.i64.wrap (x + 1)), Value.int IntKind.i64 x_1] w'_1 <
 m [Value.int IntKind.i64 x, Value.int IntKind.i64 x_1] w'))
 (R (Ending.returned (Value.int IntKind.i64 x_1)) w')
theorem vc_rverdict (p : Option Addr) (n : Nat) (c : Nat) (s : ByteArray) (w : World) (R : Ending → World → Prop) (h : VC_rverdict p n c s w R) : Calls Tryz.prog 47 ([Value.slice
    p n c,
  Value.string s] : List Value).toArray w R := by
  have e : execR { P := Tryz.prog, loops := [(3, [(6, Ck.int IntKind.i64), (5, Ck.int IntKind.i64)])], pur := pur1, tails := [], joins := [], boxes := [] } Tryz.f47.results.toList R (Tryz.f47.body.getD .skip) (initF [Value.slice
    p n c,
  Value.string
    s] (Tryz.f47.ntmps - ([Value.slice p n c,
  Value.string s] : List Value).length)) w = VC_rverdict p n c s w R := by kernel_rfl
  have hb : Tryz.f47.body = some (Tryz.f47.body.getD .skip) := by kernel_rfl
  exact calls_of_exec' (P := Tryz.prog) (fn := Tryz.f47) (c := Tryz.f47.body.getD .skip) (args := [Value.slice p n c,
  Value.string s]) (w := w) (R := R) pur1_ok Tryz.func47 hb e h

def VC_rmatch (t : ByteArray) (p : Option Addr) (n : Nat) (c : Nat) (s : ByteArray) (w : World) (R : Ending → World → Prop) : Prop :=
 ∀ (n_1 : Nat) (w1 : World),
 NewB w (Obj.cells #[Value.string t, Value.slice p n c] 129) n_1 w1 →
 ∃ (I : List Value → World → Prop),
 ∃ (m : List Value → World → Nat),
 I [Value.int IntKind.i64 0] w1 ∧
 ∀ (x : Int) (w' : World),
 I [Value.int IntKind.i64 x] w' →
 bsp (decide (x < (↑s.size : Int)))
 ((0 ≤ x ∧ x < (↑s.size : Int)) ∧
 bsp (!charB (at8 s x.toNat)) (R (Ending.returned (Value.bool false)) w')
 (I [Value.int IntKind.i64 (IntKind.i64.wrap (x + 1))] w' ∧
 m [Value.int IntKind.i64 (IntKind.i64.wrap (x + 1))] w' < m [Value.int IntKind.i64 x] w'))
 ((0 ≤ IntKind.i64.wrap ((↑s.size : Int) + 1) ∧
 IntKind.i64.wrap ((↑s.size : Int) + 1) ≤ IntKind.i64.wrap ((↑s.size : Int) + 1) ∧
 (↑1 : Int) * IntKind.i64.wrap ((↑s.size : Int) + 1) ≤ 281474976710656 ∧
 IntKind.i64.wrap ((↑s.size : Int) + 1) ≤ 9223372036854775807) ∧
 ∀ (n : Nat) (w1 : World),
 NewB w' (Obj.cells (madeCells #[Value.bool false] ((IntKind.i64.wrap ((↑s.size : Int) + 1)).toNat * 1)) 4) n
 w1 →
 ((0 : Int) ≤ 0 ∧ 0 < (↑(IntKind.i64.wrap ((↑s.size : Int) + 1)).toNat : Int)) ∧
 ((∃ (u : Value), w1.cell? (Addr.mk n 0 none) = some u) ∧ w1.frozen? (Addr.mk n 0 none) = false) ∧
 ∀ (w1_1 : World),
 PutB w1 n 0 [Value.bool true] w1_1 →
 ∃ (I : List Value → World → Prop),
 ∃ (m : List Value → World → Nat),
 I
 [Value.slice (some (Addr.mk n 0 none)) (IntKind.i64.wrap ((↑s.size : Int) + 1)).toNat
 (IntKind.i64.wrap ((↑s.size : Int) + 1)).toNat,
 Value.int IntKind.i64 0]
 w1_1 ∧
 ∀ (p : Option Addr) (n c : Nat) (x : Int) (w' : World),
 I [Value.slice p n c, Value.int IntKind.i64 x] w' →
 ∃ (p_1 : Option Addr),
 ∃ (n_2 : Nat),
 ∃ (c_1 : Nat),
 w'.cell? (Addr.mk n_1 (0 + 1) none) = some (Value.slice p_1 n_2 c_1) ∧
 bsp (decide (x < (↑n_2 : Int)))
 ((0 ≤ IntKind.i64.wrap ((↑s.size : Int) + 1) ∧
 IntKind.i64.wrap ((↑s.size : Int) + 1) ≤ IntKind.i64.wrap ((↑s.size : Int) + 1) ∧
 (↑1 : Int) * IntKind.i64.wrap ((↑s.size : Int) + 1) ≤ 281474976710656 ∧
 IntKind.i64.wrap ((↑s.size : Int) + 1) ≤ 9223372036854775807) ∧
 ∀ (n_3 : Nat) (w1 : World),
 NewB w'
 (Obj.cells
 (madeCells #[Value.bool false] ((IntKind.i64.wrap ((↑s.size : Int) + 1)).toNat * 1)) 4)
 n_3 w1 →
 ∃ (I_1 : List Value → World → Prop),
 ∃ (m_1 : List Value → World → Nat),
 I_1 [Value.int IntKind.i64 0] w1 ∧
 ∀ (x_1 : Int) (w'_1 : World),
 I_1 [Value.int IntKind.i64 x_1] w'_1 →
 bsp (decide (x_1 ≤ (↑s.size : Int)))
 (∃ (p_2 : Option Addr),
 ∃ (n_4 : Nat),
 ∃ (c : Nat),
 w'_1.cell? (Addr.mk n_1 (0 + 1) none) = some (Value.slice p_2 n_4 c) ∧
 nn true p_2 fun (b o : Nat) =>
 (0 ≤ x ∧ x < (↑n_4 : Int)) ∧
 ∃ (x_2 : Bool),
 w'_1.cell? (Addr.mk b (o + x.toNat * 129) none) = some (Value.bool x_2) ∧
 bsp x_2
 (nn true p fun (b o : Nat) =>
 (0 ≤ x_1 ∧ x_1 < (↑n : Int)) ∧
 ∃ (x : Bool),
 w'_1.cell? (Addr.mk b (o + x_1.toNat) none) = some (Value.bool x) ∧
 gimp (!x && decide (x_1 > 0))
 (0 ≤ IntKind.i64.wrap (x_1 - 1) ∧
 IntKind.i64.wrap (x_1 - 1) <
 (↑(IntKind.i64.wrap ((↑s.size : Int) + 1)).toNat : Int)) ∧
 ∃ (x_3 : Bool),
 gimp (!x && decide (x_1 > 0))
 (w'_1.cell?
 (Addr.mk n_3 (0 + (IntKind.i64.wrap (x_1 - 1)).toNat) none) =
 some (Value.bool x_3)) ∧
 (0 ≤ x_1 ∧
 x_1 < (↑(IntKind.i64.wrap ((↑s.size : Int) + 1)).toNat : Int)) ∧
 ((∃ (u : Value),
 w'_1.cell? (Addr.mk n_3 (0 + x_1.toNat) none) = some u) ∧
 w'_1.frozen? (Addr.mk n_3 (0 + x_1.toNat) none) = false) ∧
 ∀ (w1 : World),
 PutB w'_1 n_3 (0 + x_1.toNat)
 [Value.bool (x || decide (x_1 > 0) && x_3)] w1 →
 I_1 [Value.int IntKind.i64 (IntKind.i64.wrap (x_1 + 1))] w1 ∧
 m_1 [Value.int IntKind.i64 (IntKind.i64.wrap (x_1 + 1))] w1 <
 m_1 [Value.int IntKind.i64 x_1] w'_1)
 (bsp (decide (x_1 > 0))
 (nn true p fun (b o : Nat) =>
 (0 ≤ IntKind.i64.wrap (x_1 - 1) ∧
 IntKind.i64.wrap (x_1 - 1) < (↑n : Int)) ∧
 ∃ (x_3 : Bool),
 w'_1.drew.cell?
 (Addr.mk b (o + (IntKind.i64.wrap (x_1 - 1)).toNat) none) =
 some (Value.bool x_3) ∧
 ∃ (p : Option Addr),
 ∃ (n : Nat),
 ∃ (c : Nat),
 gimp x_3
 (w'_1.drew.cell? (Addr.mk n_1 (0 + 1) none) =
 some (Value.slice p n c)) ∧
 gimp x_3
 (0 ≤ IntKind.i64.wrap (x_1 - 1) ∧
 IntKind.i64.wrap (x_1 - 1) < (↑s.size : Int)) ∧
 nn x_3 p fun (b o : Nat) =>
 gimp x_3 (0 ≤ x ∧ x < (↑n : Int)) ∧
 gimp x_3
 (0 ≤ at8 s (IntKind.i64.wrap (x_1 - 1)).toNat ∧
 at8 s (IntKind.i64.wrap (x_1 - 1)).toNat < (↑128 : Int)) ∧
 ∃ (x_4 : Bool),
 gimp x_3
 (w'_1.drew.cell?
 (Addr.mk b
 (o + x.toNat * 129 + 1 +
 (at8 s (IntKind.i64.wrap (x_1 - 1)).toNat).toNat)
 none) =
 some (Value.bool x_4)) ∧
 (0 ≤ x_1 ∧
 x_1 <
 (↑(IntKind.i64.wrap ((↑s.size : Int) + 1)).toNat : Int)) ∧
 ((∃ (u : Value),
 w'_1.drew.cell? (Addr.mk n_3 (0 + x_1.toNat) none) =
 some u) ∧
 w'_1.drew.frozen? (Addr.mk n_3 (0 + x_1.toNat) none) =
 false) ∧
 ∀ (w1 : World),
 PutB w'_1.drew n_3 (0 + x_1.toNat)
 [Value.bool (x_3 && x_4)] w1 →
 I_1 [Value.int IntKind.i64 (IntKind.i64.wrap (x_1 + 1))]
 w1 ∧
 m_1 [Value.int IntKind.i64 (IntKind.i64.wrap (x_1 + 1))]
 w1 <
 m_1 [Value.int IntKind.i64 x_1] w'_1)
 (I_1 [Value.int IntKind.i64 (IntKind.i64.wrap (x_1 + 1))] w'_1 ∧
 m_1 [Value.int IntKind.i64 (IntKind.i64.wrap (x_1 + 1))] w'_1 <
 m_1 [Value.int IntKind.i64 x_1] w'_1)))
 (I
 [Value.slice (some (Addr.mk n_3 0 none))
 (IntKind.i64.wrap ((↑s.size : Int) + 1)).toNat
 (IntKind.i64.wrap ((↑s.size : Int) + 1)).toNat,
 Value.int IntKind.i64 (IntKind.i64.wrap (x + 1))]
 w'_1 ∧
 m
 [Value.slice (some (Addr.mk n_3 0 none))
 (IntKind.i64.wrap ((↑s.size : Int) + 1)).toNat
 (IntKind.i64.wrap ((↑s.size : Int) + 1)).toNat,
 Value.int IntKind.i64 (IntKind.i64.wrap (x + 1))]
 w'_1 <
 m [Value.slice p n c, Value.int IntKind.i64 x] w'))
 (nn true p fun (b o : Nat) =>
 (0 ≤ (↑s.size : Int) ∧ (↑s.size : Int) < (↑n : Int)) ∧
 ∃ (x : Bool),
 w'.cell? (Addr.mk b (o + (↑s.size : Int).toNat) none) = some (Value.bool x) ∧
 R (Ending.returned (Value.bool x)) w'))
theorem vc_rmatch (t : ByteArray) (p : Option Addr) (n : Nat) (c : Nat) (s : ByteArray) (w : World) (R : Ending → World → Prop) (h : VC_rmatch t p n c s w R) : Calls Tryz.prog 69 ([Value.agg
    #[Value.string t, Value.slice p n c],
  Value.string s] : List Value).toArray w R := by
  have e : execR { P := Tryz.prog, loops := [(2, [(5, Ck.int IntKind.i64)]), (9, [(6, Ck.slice), (7, Ck.int IntKind.i64)]), (13, [(9, Ck.int IntKind.i64)])], pur := pur1, tails := [(18, 21)], joins := [], boxes := [] } Tryz.f69.results.toList R (Tryz.f69.body.getD .skip) (initF [Value.agg
    #[Value.string t, Value.slice p n c],
  Value.string
    s] (Tryz.f69.ntmps - ([Value.agg #[Value.string t, Value.slice p n c],
  Value.string s] : List Value).length)) w = VC_rmatch t p n c s w R := by kernel_rfl
  have hb : Tryz.f69.body = some (Tryz.f69.body.getD .skip) := by kernel_rfl
  exact calls_of_exec' (P := Tryz.prog) (fn := Tryz.f69) (c := Tryz.f69.body.getD .skip) (args := [Value.agg
    #[Value.string t, Value.slice p n c],
  Value.string s]) (w := w) (R := R) pur1_ok Tryz.func69 hb e h

end Go.Proofs.YtkkfnlehlkiejaaGreatDoor

/- The contracts of the reference's Match, Verdict and Selects. Names have at most 2^47 bytes. -/
namespace Go.Proofs.YtkkfnlehlkiejaaGreatDoor
open Go.RowKit

theorem rows_star {rs : List RE} {k : Nat} {r : RE} (h : rs[k]? = some r) : (rows rs)[k * 129]? = some (.bool r.star) := by
  have := flat_get (fun r : RE => reL r.star r.set) 129 rs k r 0 (fun y _ => reL_length _ _) h (by decide)
  exact this
theorem rows_set {rs : List RE} {k : Nat} {r : RE} (h : rs[k]? = some r) {c : Nat} (hc : c < 128) : (rows rs)[k * 129 + 1 + c]? = some (.bool (r.set c)) := by
  have := flat_get (fun r : RE => reL r.star r.set) 129 rs k r (1 + c) (fun y _ => reL_length _ _) h (by omega)
  rw [← Nat.add_assoc] at this
  unfold rows
  rw [this]
  show (Value.bool r.star :: arrBo r.set 128 0)[1 + c]? = _
  rw [Nat.add_comm 1 c, List.getElem?_cons_succ, arrBo_get _ _ _ _ hc, Nat.zero_add]

set_option maxHeartbeats 1000000 in
theorem rmatch_any (t : ByteArray) (p : Option Addr) (c : Nat) (rs : List RE) (s : ByteArray) (w : World) {base : Nat} (ho : w.ownsRow base 160 129 (.slice p rs.length c) rs.length (rows rs)) (hs : s.size ≤ 140737488355328) (hl : rs.length ≤ 1048576) :
    Calls Tryz.prog 69 #[.agg #[.string t, .slice p rs.length c], .string s] w fun e w' => e = .returned (.bool (rmatchB rs s)) ∧ K0 w w' := by
  refine vc_rmatch t p rs.length c s w _ ?_
  have eW : IntKind.i64.wrap ((s.size : Int) + 1) = ((s.size + 1 : Nat) : Int) := by rw [wr64 (by omega) (by omega)]; omega
  unfold VC_rmatch
  simp only [eW, Int.toNat_natCast]
  intro n1 w1 hn
  have k1 : K0 w w1 := hn.kp _
  refine count1 s.size (by omega) (fun k w' => (∀ j, j < k → charB (at8 s j) = true) ∧ w' = w1) ⟨fun j hj => by omega, rfl⟩ ?_
  rintro I m k w' hk ⟨hch, rfl⟩ next
  refine bsp_intro (fun hlt => ?_) (fun hge => ?_)
  · have hlt : k < s.size := by simpa using hlt
    rw [Int.toNat_natCast]
    refine ⟨by omega, bsp_intro (fun hc => ?_) (fun hc => next hlt w' ⟨fun j hj => ?_, rfl⟩)⟩
    · refine ⟨?_, k1⟩
      have : (List.range s.size).all (fun i => charB (at8 s i)) = false := by
        rw [List.all_eq_false]
        exact ⟨k, List.mem_range.2 hlt, by simpa using hc⟩
      unfold rmatchB
      rw [this]; rfl
    · by_cases e : j = k
      · subst e; simpa using hc
      · exact hch j (by omega)
  have hge : k = s.size := by simp at hge; omega
  subst hge
  have hall : (List.range s.size).all (fun i => charB (at8 s i)) = true := by
    rw [List.all_eq_true]
    exact fun j hj => hch j (List.mem_range.1 hj)
  have hR : rmatchB rs s = pmF (rS rs) (fun i k => rS rs i || rH rs i (at8 s k).toNat) rs.length s.size := by unfold rmatchB; rw [hall, Bool.true_and]
  rw [hR]
  generalize hh : (fun i k => rS rs i || rH rs i (at8 s k).toNat) = h
  generalize hst : rS rs = st
  refine ⟨by omega, fun g0 w2 hn2 => ⟨⟨by omega, by omega⟩, ?_⟩⟩
  have b2 := hn2.block
  rw [bools_made] at b2
  refine ⟨cell_wr b2 (by rw [bools_size]; omega), fun w3 hp3 => ?_⟩
  have b3 : w3.heap[g0]? = some (.cells (bools (pmF st h 0) (s.size + 1)) 4 (0, 0)) := by
    rw [hp3.block b2]
    congr 2
    apply bools_put
    intro j _
    by_cases e : j = 0
    · subst e; rfl
    · rw [if_neg e]; simp [pmF, e]
  have g0n : n1 < g0 := by have := hn.size; have := hn2.ge; omega
  have k3 : K0 w' w3 := (hn2.kp (fun _ => False)).fresh hp3.kp (fun i hi e => by have := hn2.ge; omega)
  have c1 : ∀ wx, K0 w' wx → wx.cell? ⟨n1, 0 + 1, none⟩ = some (.slice p rs.length c) := fun wx hk => cell_at (hk.blk hn.block (fun h => h)) rfl
  refine ⟨fun vs wx => ∃ (g k : Nat), vs = [.slice (some ⟨g, 0, none⟩) (s.size + 1) (s.size + 1), .int .i64 (k : Int)] ∧ k ≤ rs.length ∧ wx.heap[g]? = some (.cells (bools (pmF st h k) (s.size + 1)) 4 (0, 0)) ∧ K0 w' wx,
    fun vs _ => (match vs with | [_, .int _ x] => rs.length - x.toNat | _ => 0), ⟨g0, 0, rfl, by omega, b3, k3⟩, ?_⟩
  rintro p1 n_ c_ x w4 ⟨g, k, hv, hk, b4, k4⟩
  simp only [List.cons.injEq, Value.int.injEq, Value.slice.injEq, true_and, and_true] at hv
  obtain ⟨⟨rfl, rfl, rfl⟩, rfl⟩ := hv
  refine ⟨p, rs.length, c, c1 w4 k4, bsp_intro (fun hlt => ?_) (fun hge => ?_)⟩
  · have hlt : k < rs.length := by simpa using hlt
    obtain ⟨r, hr⟩ : ∃ r, rs[k]? = some r := ⟨_, List.getElem?_eq_getElem hlt⟩
    have hstk : st k = r.star := by rw [← hst]; simp [rS, hr]
    have hhk : ∀ i, h k i = (r.star || r.set (at8 s i).toNat) := fun i => by rw [← hh]; simp [rS, rH, hr]
    refine ⟨by omega, fun n3 w5 hn5 => ?_⟩
    have b5 := hn5.block
    rw [bools_made] at b5
    have g3 : w4.heap.size ≤ n3 := hn5.ge
    have glt : g < w4.heap.size := block_lt b4
    have b45 := (hn5.kp (fun _ => False)).blk b4 (fun h => h)
    have k5 : K0 w' w5 := k4.trans (hn5.kp _)
    refine count1 (s.size + 1) (by omega) (fun i wx => wx.heap[n3]? = some (.cells (bools (fun j => decide (j < i) && pmF st h (k + 1) j) (s.size + 1)) 4 (0, 0)) ∧ Kp (· = n3) w5 wx) ⟨?_, .refl _ _⟩ ?_
    · rw [b5]
      congr 2
      first | done | (apply bools_congr; intro j _; simp)
    rintro I1 m1 i w6 hi ⟨b6, k6⟩ next
    have b46 := k6.blk b45 (fun e => by omega)
    have k6' : K0 w' w6 := k5.fresh k6 (fun i hi e => by have := k4.size; omega)
    refine bsp_intro (fun hle => ?_) (fun hgt => ?_)
    · have hle : i < s.size + 1 := by simp at hle; omega
      have ho6 := owns_kp (owns_kp ho k1 (fun _ _ h => h)) k6' (fun _ _ h => h)
      obtain ⟨ge, rfl, hcs⟩ := own_cellL ho6 (rows_star hr)
      refine ⟨_, rs.length, c, c1 w6 k6', ?_⟩
      show (0 ≤ (k : Int) ∧ (k : Int) < (rs.length : Int)) ∧ _
      rw [Int.toNat_natCast]
      refine ⟨by omega, r.star, by rw [Nat.zero_add]; exact hcs, ?_⟩
      have fin : ∀ (wz : World) (v : Bool), Kp (· = n3) w5 wz → wz.heap[n3]? = some (.cells (bools (fun j => decide (j < i) && pmF st h (k + 1) j) (s.size + 1)) 4 (0, 0)) → v = pmF st h (k + 1) i → ∀ wy, PutB wz n3 (0 + i) [.bool v] wy → wy.heap[n3]? = some (.cells (bools (fun j => decide (j < i + 1) && pmF st h (k + 1) j) (s.size + 1)) 4 (0, 0)) ∧ Kp (· = n3) w5 wy := fun wz v hkz hbz hv wy hp => by
        refine ⟨?_, hkz.trans hp.kp⟩
        have := hp.block hbz
        rw [Nat.zero_add] at this
        rw [this]
        congr 2
        apply bools_put
        intro j _
        by_cases e : j = i
        · subst e; rw [if_pos rfl, hv]; simp
        · rw [if_neg e]
          have : decide (j < i + 1) = decide (j < i) := by rw [decide_eq_decide]; omega
          rw [this]
      have e1 : 0 < i → IntKind.i64.wrap ((i : Int) - 1) = ((i - 1 : Nat) : Int) := fun h0 => by rw [wr64 (by omega) (by omega)]; omega
      refine bsp_intro (fun hs1 => ?_) (fun hs0 => bsp_intro (fun h0 => ?_) (fun h0 => ?_))
      · show (0 ≤ (i : Int) ∧ (i : Int) < ((s.size + 1 : Nat) : Int)) ∧ _
        rw [Int.toNat_natCast]
        refine ⟨by omega, pmF st h k i, by rw [Nat.zero_add]; exact cell_at b46 (bools_get _ _ _ (by omega)), gimp_intro fun hg => ?_, ?_⟩
        · have h0 : 0 < i := by simp at hg; omega
          rw [e1 h0]; omega
        refine ⟨pmF st h (k + 1) (i - 1), gimp_intro fun hg => ?_, by omega, cell_wr b6 (by rw [bools_size]; omega), fun wy hp => next hle wy (fin w6 _ k6 b6 ?_ wy hp)⟩
        · have h0 : 0 < i := by simp at hg; omega
          rw [e1 h0, Int.toNat_natCast, Nat.zero_add]
          refine cell_at b6 ?_
          rw [bools_get _ _ _ (by omega)]
          have : decide (i - 1 < i) = true := by simp; omega
          rw [this, Bool.true_and]
        · cases i with
          | zero => rw [pmF_zero, hstk, hs1]; simp
          | succ i =>
            rw [pmF_succ, hstk, if_pos hs1, hhk, hs1]
            have : decide (((i + 1 : Nat) : Int) > 0) = true := decide_eq_true (by omega)
            rw [this]
            simp
      · have h0 : 0 < i := by simp at h0; omega
        rw [e1 h0, Int.toNat_natCast, Int.toNat_natCast]
        obtain ⟨j, rfl⟩ : ∃ j, i = j + 1 := ⟨i - 1, by omega⟩
        rw [Nat.add_sub_cancel]
        have hcb := charB_lt (hch j (by omega))
        obtain ⟨ge', hge', hcc⟩ := own_cellL ho6 (rows_set hr (c := (at8 s j).toNat) (by omega))
        simp only [Option.some.injEq, Addr.mk.injEq, and_true] at hge'
        subst hge'
        show (0 ≤ (j : Int) ∧ (j : Int) < ((s.size + 1 : Nat) : Int)) ∧ _
        refine ⟨by omega, pmF st h k j, by rw [Nat.zero_add]; exact cell_at (blk_drew b46) (bools_get _ _ _ (by omega)), some ⟨ge, 0, none⟩, rs.length, c, gimp_intro fun _ => c1 w6.drew k6'.drew, gimp_intro fun _ => by omega, ?_⟩
        show gimp _ _ ∧ _
        refine ⟨gimp_intro fun _ => by omega, gimp_intro fun _ => by omega, r.set (at8 s j).toNat, gimp_intro fun _ => by rw [Nat.zero_add]; exact hcc, by omega, cell_wr (blk_drew b6) (by rw [bools_size]; omega), fun wy hp => next hle wy (fin w6.drew _ k6.drew (blk_drew b6) ?_ wy hp)⟩
        rw [pmF_succ, hstk, if_neg (by rw [hs0]; decide), hhk, hs0, Bool.false_or, Bool.and_comm]
      · have h0 : i = 0 := by simp at h0; omega
        subst h0
        refine next hle w6 ⟨?_, k6⟩
        rw [b6]
        congr 2
        apply bools_congr
        intro j _
        by_cases e : j = 0
        · subst e
          rw [pmF_zero, hstk, hs0]; simp
        · have h1 : decide (j < 0 + 1) = false := decide_eq_false (by omega)
          have h2 : decide (j < 0) = false := decide_eq_false (by omega)
          rw [h1, h2]
    · have hgt : i = s.size + 1 := by simp at hgt; omega
      subst hgt
      have f1 : IntKind.i64.wrap ((k : Int) + 1) = ((k + 1 : Nat) : Int) := by rw [wr64 (by omega) (by omega)]; omega
      rw [f1]
      refine ⟨⟨n3, k + 1, rfl, by omega, ?_, k6'⟩, by simp only [Int.toNat_natCast]; omega⟩
      rw [b6]
      congr 2
      apply bools_congr
      intro j hj
      simp [hj]
  · have hge : k = rs.length := by simp at hge; omega
    subst hge
    show (0 ≤ (s.size : Int) ∧ (s.size : Int) < ((s.size + 1 : Nat) : Int)) ∧ _
    refine ⟨by omega, _, by rw [Nat.zero_add]; exact cell_at b4 (bools_get _ _ _ (by omega)), rfl, k1.trans k4⟩

theorem ritC_length (x : RItA) : (ritC x).length = 3 := rfl
theorem RLst.cell {base : Nat} {w : World} {p : Option Addr} {n c : Nat} {L : List RItA} (h : RLst base w p n c L) {k : Nat} {x : RItA} (hk : L[k]? = some x) {j : Nat} {v : Value} (hj : (ritC x)[j]? = some v) : ∃ g, p = some ⟨g, 0, none⟩ ∧ w.cell? ⟨g, k * 3 + j, none⟩ = some v := by
  refine own_cellL h.row ?_
  have : j < 3 := by rw [← ritC_length x]; exact (List.getElem?_eq_some_iff.1 hj).1
  rw [flat_get ritC 3 L k x j (fun y _ => ritC_length y) hk this]
  exact hj
set_option maxHeartbeats 1000000 in
theorem rverdict_any {base : Nat} {w : World} {p : Option Addr} {n c : Nat} {L : List RItA} (h : RLst base w p n c L) (s : ByteArray) (hs : s.size ≤ 140737488355328) (hl : L.length ≤ 64) (hr : ∀ x ∈ L, x.1.rs.length ≤ 80) :
    Calls Tryz.prog 47 #[.slice p n c, .string s] w fun e w' => e = .returned (.int .i64 (rverd (L.map (·.1)) s)) ∧ K0 w w' := by
  refine vc_rverdict p n c s w _ ?_
  refine ⟨fun vs w' => ∃ k : Nat, vs = [.int .i64 (k : Int), .int .i64 (rverd ((L.take k).map (·.1)) s)] ∧ k ≤ L.length ∧ K0 w w', fun vs _ => (match vs with | .int _ x :: _ => L.length - x.toNat | _ => 0), ⟨0, rfl, by omega, .refl _ _⟩, ?_⟩
  rintro x x1 w2 ⟨k, hv, hk, hk2⟩
  simp only [List.cons.injEq, Value.int.injEq, true_and, and_true] at hv
  obtain ⟨rfl, rfl⟩ := hv
  have hn := h.len
  refine bsp_intro (fun hlt => ?_) (fun hge => ?_)
  · have hlt : k < L.length := by simp at hlt; omega
    obtain ⟨y, hy⟩ : ∃ y, L[k]? = some y := ⟨_, List.getElem?_eq_getElem hlt⟩
    have htk : (L.take (k + 1)).map (·.1) = (L.take k).map (·.1) ++ [y.1] := by rw [List.take_add_one, hy, List.map_append]; rfl
    have h2 := h.kp hk2
    obtain ⟨g, rfl, c1⟩ := h2.cell hy (j := 1) rfl
    obtain ⟨g', e', c2⟩ := h2.cell hy (j := 2) rfl
    simp only [Option.some.injEq, Addr.mk.injEq, and_true] at e'
    subst e'
    show (0 ≤ (k : Int) ∧ (k : Int) < (n : Int)) ∧ _
    rw [Int.toNat_natCast]
    refine ⟨by omega, y.1.t, y.2.1, y.1.rs.length, y.2.2, ⟨At_of _ _ fun j v hj => ?_⟩, ⟨(rmatch_any y.1.t y.2.1 y.2.2 y.1.rs s w2 (h2.els y (List.mem_of_getElem? hy)) hs (by have := hr y (List.mem_of_getElem? hy); omega)).mono fun e w3 ⟨he, hk3⟩ => ⟨_, he, ?_⟩⟩⟩
    · match j, hj with
      | 0, hj => simp at hj; subst hj; rw [Nat.zero_add, Nat.add_zero]; exact c1
      | 1, hj => simp at hj; subst hj; rw [Nat.zero_add]; exact c2
    have h3 := h2.kp hk3
    have f1 : IntKind.i64.wrap ((k : Int) + 1) = ((k + 1 : Nat) : Int) := by rw [wr64 (by omega) (by omega)]; omega
    rw [f1]
    have hsn : rverd ((L.take (k + 1)).map (·.1)) s = if rmatchB y.1.rs s = true then y.1.v else rverd ((L.take k).map (·.1)) s := by rw [htk]; simp [rverd]
    refine bsp_intro (fun hm => ?_) (fun hm => ⟨⟨k + 1, ?_, by omega, hk2.trans hk3⟩, by simp only [Int.toNat_natCast]; omega⟩)
    · obtain ⟨g', e', c0⟩ := h3.cell hy (j := 0) rfl
      simp only [Option.some.injEq, Addr.mk.injEq, and_true] at e'
      subst e'
      show (0 ≤ (k : Int) ∧ (k : Int) < (n : Int)) ∧ _
      refine ⟨by omega, y.1.v, by rw [Nat.zero_add]; exact c0, ⟨k + 1, ?_, by omega, hk2.trans hk3⟩, by simp only [Int.toNat_natCast]; omega⟩
      rw [hsn, if_pos hm]
    · rw [hsn, if_neg (by rw [hm]; decide)]
  · have : k = L.length := by simp at hge; omega
    subst this
    rw [List.take_length]
    exact ⟨rfl, hk2⟩

end Go.Proofs.YtkkfnlehlkiejaaGreatDoor
