/- The contract of the reference's ParseList: it agrees with the program's. The text has at most 2^30 bytes. -/
import Derived.Test.YtcpjajjocmpkjaaDoorRcomp
import Derived.Test.YtcpjajjocmpkjaaDoorVcRefD
namespace Go.Proofs.YtcpjajjocmpkjaaDoor
open Go.RowKit

/-- An entry of the reference's list, and where its elements lie. -/
abbrev RItA := REnt × Option Addr × Nat
def ritC (x : RItA) : List Value := [.int .i64 x.1.v, .string x.1.t, .slice x.2.1 x.1.rs.length x.2.2]
/-- The reference's list in the memory. -/
structure RLst (base : Nat) (w : World) (p : Option Addr) (n c : Nat) (L : List RItA) : Prop where
  len : n = L.length
  row : w.ownsRow base 122 3 (.slice p n c) n (L.flatMap ritC)
  els : ∀ x ∈ L, w.ownsRow base 150 129 (.slice x.2.1 x.1.rs.length x.2.2) x.1.rs.length (rows x.1.rs)
theorem RLst.kp {base : Nat} {w w' : World} {p : Option Addr} {n c : Nat} {L : List RItA} (h : RLst base w p n c L) (hk : K0 w w') : RLst base w' p n c L :=
  ⟨h.len, owns_kp h.row hk (fun _ _ h => h), fun x hx => owns_kp (h.els x hx) hk (fun _ _ h => h)⟩
theorem hp1 (x : ByteArray) (c : UInt8) : Lib.hasPrefix x.data.toList [c] = (decide (0 < x.size) && at8 x 0 == (c.toNat : Int)) := by
  have hl : x.data.toList.length = x.size := x.data.length_toList
  cases hd : x.data.toList with
  | nil =>
    rw [hd] at hl
    have : ¬ 0 < x.size := by simp at hl; omega
    simp [this, Lib.hasPrefix]
  | cons a r =>
    have h0 : 0 < x.size := by rw [hd] at hl; simp at hl; omega
    have g := at8_byte h0
    rw [hd] at g
    simp at g
    have hb := at8_bd x 0
    have ea : at8 x 0 = (a.toNat : Int) := by
      rw [g, UInt8.toNat_ofNat']
      omega
    rw [ea]
    simp only [Lib.hasPrefix, List.isPrefixOf, h0, decide_true, Bool.true_and, Bool.and_true]
    rw [Bool.eq_iff_iff]
    simp only [beq_iff_eq]
    constructor
    · rintro rfl; rfl
    · intro h
      apply UInt8.toNat_inj.1
      omega
theorem ext_ext (s : ByteArray) (a b i j : Nat) (h : a + j ≤ b) : (s.extract a b).extract i j = s.extract (a + i) (a + j) := by
  rw [ByteArray.extract_extract]
  congr 1
  omega

set_option maxHeartbeats 1000000 in
theorem rparseList_any (s : ByteArray) (w : World) (hs : s.size ≤ 1073741824) : Calls Tryd.prog 33 #[.string s] w fun e w' => K0 w w' ∧
    match listR s with
    | .inl es => ∃ p n c L, e = .returned (.tuple #[.slice p n c, .int .i64 0, .int .i64 0]) ∧ RLst w.heap.size w' p n c L ∧ RelEnts es (L.map (·.1))
    | .inr (o, x) => e = .returned (.tuple #[.slice none 0 0, .int .i64 o, .int .i64 x]) := by
  refine vc_rparseList s w _ ?_
  unfold VC_rparseList
  rw [toList_nil]
  refine bsp_intro (fun h0 => ⟨.refl _ _, ?_⟩) (fun h0 => ?_)
  · have h0 : s.size = 0 := by simpa using h0
    unfold listR; rw [if_pos h0]
  have h0 : ¬ s.size = 0 := by simpa using h0
  have hR : listR s = entsS (partsS s) 0 [] := by unfold listR; rw [if_neg h0]
  rw [hR]
  generalize hG : entsS (partsS s) 0 [] = G
  refine ⟨fun vs w' => ∃ (i fr : Nat) (acc : List Ent) (p : Option Addr) (n c : Nat) (L : List RItA), vs = [.int .i64 i, .int .i64 fr, .slice p n c] ∧ i ≤ s.size + 1 ∧ RelEnts acc (L.map (·.1)) ∧ RLst w.heap.size w' p n c L ∧ K0 w w' ∧ acc.length ≤ 64 ∧
      ((i ≤ s.size ∧ fr ≤ i ∧ entsS (partsS (s.extract fr s.size)) fr acc = G ∧ ∀ j, fr ≤ j → j < i → at8 s j ≠ 44) ∨ (i = s.size + 1 ∧ G = .inl acc)),
    fun vs _ => (match vs with | .int _ x :: _ => s.size + 1 - x.toNat | _ => 0), ⟨0, 0, [], none, 0, 0, [], rfl, by omega, ⟨rfl, fun j e r h _ => by simp at h⟩, ⟨rfl, World.ownsRow_nil _ _ _ _, fun x hx => by cases hx⟩, .refl _ _, by simp, .inl ⟨by omega, by omega, ?_, fun j _ hj => by omega⟩⟩, ?_⟩
  · rw [show s.extract 0 s.size = s from ByteArray.extract_zero_size]; exact hG
  rintro x x1 p n c w' ⟨i, fr, acc, p', n', c', L, hv, hi, hrel, hL, hk, h64, hst⟩
  simp only [List.cons.injEq, Value.int.injEq, Value.slice.injEq, true_and, and_true] at hv
  obtain ⟨rfl, rfl, rfl, rfl, rfl⟩ := hv
  have hnl : n = acc.length := by rw [hL.len, hrel.len, List.length_map]
  refine bsp_intro (fun hle => ?_) (fun hgt => ?_)
  · have hle : i ≤ s.size := by simp at hle; omega
    obtain ⟨_, hfr, hE, hno⟩ : i ≤ s.size ∧ fr ≤ i ∧ entsS (partsS (s.extract fr s.size)) fr acc = G ∧ ∀ j, fr ≤ j → j < i → at8 s j ≠ 44 := by
      rcases hst with h | h
      · exact h
      · omega
    have ei : (i : Int).toNat = i := by omega
    rw [ei, wr64 (x := (i : Int) + 1) (by omega) (by omega)]
    refine ⟨gimp_intro fun h => ⟨by omega, by simpa using h⟩, bsp_intro (fun hc => ?_) (fun hc => ?_)⟩
    · have hlt : i < s.size := by simp at hc; omega
      have h44 : at8 s i ≠ 44 := by simp at hc; exact hc.2
      refine ⟨⟨i + 1, fr, acc, p, n, c, L, by congr 2, by omega, hrel, hL, hk, h64, .inl ⟨by omega, by omega, hE, fun j h1 h2 => ?_⟩⟩, by simp only; omega⟩
      by_cases e : j = i
      · rw [e]; exact h44
      · exact hno j h1 (by omega)
    -- a part ends here
    have hrsz : (s.extract fr s.size).size = s.size - fr := by rw [ByteArray.size_extract]; omega
    obtain ⟨ps, hps, hnx⟩ : ∃ ps, partsS (s.extract fr s.size) = s.extract fr i :: ps ∧ ∀ acc', entsS ps ((i : Int) + 1) acc' = (if i < s.size then entsS (partsS (s.extract (i + 1) s.size)) ((i : Int) + 1) acc' else .inl acc') := by
      by_cases hlt : i < s.size
      · have h44 : at8 s i = 44 := by
          have : decide ((i : Int) < (s.size : Int)) = true := by simp; omega
          rw [this] at hc
          simpa using hc
        refine ⟨_, ?_, fun acc' => (if_pos hlt).symm⟩
        have := parts_hit (s := s.extract fr s.size) (i := i - fr) (by omega) (by rw [at8_extract s fr s.size (i - fr) (by omega) (Nat.le_refl _), show fr + (i - fr) = i by omega]; exact h44) (fun j hj => by
          rw [at8_extract s fr s.size j (by omega) (Nat.le_refl _)]; exact hno _ (by omega) (by omega))
        rw [this, ext_ext s fr s.size 0 (i - fr) (by omega), hrsz, ext_ext s fr s.size (i - fr + 1) (s.size - fr) (by omega)]
        rw [show fr + 0 = fr by omega, show fr + (i - fr) = i by omega, show fr + (i - fr + 1) = i + 1 by omega, show fr + (s.size - fr) = s.size by omega]
      · have e : i = s.size := by omega
        refine ⟨[], ?_, fun acc' => by rw [if_neg hlt]; rfl⟩
        rw [parts_miss (fun j hj => by rw [at8_extract s fr s.size j (by omega) (Nat.le_refl _)]; exact hno _ (by omega) (by omega)), e]
    rw [hps] at hE
    generalize hpt : s.extract fr i = part at *
    have psz : part.size = i - fr := by rw [← hpt, ByteArray.size_extract]; omega
    have pat : 0 < part.size → at8 part 0 = at8 s fr := fun h => by rw [← hpt, at8_extract s fr i 0 (by omega) hle]; rfl
    unfold entsS at hE
    refine bsp_intro (fun hn => ⟨hk, ?_⟩) (fun hn => ?_)
    · have hn : acc.length = 64 := by simp at hn; omega
      rw [if_pos hn] at hE
      rw [← hE]
    have hn : ¬ acc.length = 64 := by simp at hn; omega
    rw [if_neg hn] at hE
    intro n1 w1 hn1
    refine ⟨WrL_block hn1.block (by simp), fun w2 hp2 => ?_⟩
    have b2 : w2.heap[n1]? = some (.cells #[.int .i64 1, .string ⟨#[]⟩, .slice none 0 0] 122 (0, 0)) := hp2.full hn1.block rfl
    have g1 : w'.heap.size ≤ n1 := hn1.ge
    have k2 : K0 w' w2 := (hn1.kp _).fresh hp2.kp (fun i hi e => by omega)
    have efr : (fr : Int).toNat = fr := by omega
    rw [efr, wr64 (x := (fr : Int) + 1) (by omega) (by omega)]
    -- the mark of a part
    have h33 : (decide ((fr : Int) < (i : Int)) && at8 s fr == 33) = Lib.hasPrefix part.data.toList [33] := by
      rw [hp1]
      by_cases h : fr < i
      · have h1 : decide ((fr : Int) < (i : Int)) = true := by simp; omega
        have h2 : decide (0 < part.size) = true := decide_eq_true (by omega)
        rw [h1, h2, pat (by omega)]; rfl
      · have h1 : decide ((fr : Int) < (i : Int)) = false := by simp; omega
        have h2 : decide (0 < part.size) = false := decide_eq_false (by omega)
        rw [h1, h2]; rfl
    have h64' : (decide ((fr : Int) < (i : Int)) && at8 s fr == 64) = Lib.hasPrefix part.data.toList [64] := by
      rw [hp1]
      by_cases h : fr < i
      · have h1 : decide ((fr : Int) < (i : Int)) = true := by simp; omega
        have h2 : decide (0 < part.size) = true := decide_eq_true (by omega)
        rw [h1, h2, pat (by omega)]; rfl
      · have h1 : decide ((fr : Int) < (i : Int)) = false := by simp; omega
        have h2 : decide (0 < part.size) = false := decide_eq_false (by omega)
        rw [h1, h2]; rfl
    rw [h33, h64']
    have hgi : gimp (decide ((fr : Int) < (i : Int))) (0 ≤ (fr : Int) ∧ (fr : Int) < (s.size : Int)) := gimp_intro fun h => ⟨by omega, by simp at h; omega⟩
    refine ⟨fun vs wx => ∃ d : Nat, vs = [.int .i64 ((fr + d : Nat) : Int)] ∧ fr + d ≤ i ∧ bareS part = s.extract (fr + d) i ∧ wx.heap[n1]? = some (.cells #[.int .i64 (markI part), .string ⟨#[]⟩, .slice none 0 0] 122 (0, 0)) ∧ K0 w' wx, ?_, ?_⟩
    · have one : ∀ (m : Int) (wx : World), (Lib.hasPrefix part.data.toList [33] = true ∨ Lib.hasPrefix part.data.toList [64] = true) → markI part = m → PutB w2 n1 0 [.int .i64 m] wx → ∃ d : Nat, [Value.int .i64 ((fr : Int) + 1)] = [Value.int .i64 ((fr + d : Nat) : Int)] ∧ fr + d ≤ i ∧ bareS part = s.extract (fr + d) i ∧ wx.heap[n1]? = some (.cells #[.int .i64 (markI part), .string ⟨#[]⟩, .slice none 0 0] 122 (0, 0)) ∧ K0 w' wx := fun m wx hor hm hp => by
        have hpos : 1 ≤ part.size := by rcases hor with h | h <;> exact hasPrefix1 h
        refine ⟨1, by congr 2, by omega, ?_, ?_, k2.fresh hp.kp (fun i hi e => by omega)⟩
        · unfold bareS
          rw [if_neg (by
            unfold markI
            rcases hor with h | h
            · rw [if_pos h]; decide
            · split <;> decide)]
          rw [psz, ← hpt, ext_ext s fr i 1 (i - fr) (by omega), show fr + (i - fr) = i by omega]
        · rw [hm]; exact hp.block b2
      refine ⟨hgi, bsp_intro (fun h => ⟨cell_wr b2 (by simp), fun w3 hp3 => one 2 w3 (.inl h) (by unfold markI; rw [if_pos h]) hp3⟩) (fun h => ⟨hgi, bsp_intro (fun h' => ⟨cell_wr b2 (by simp), fun w3 hp3 => one 3 w3 (.inr h') (by unfold markI; rw [if_neg (by rw [h]; decide), if_pos h']) hp3⟩) (fun h' => ?_)⟩)⟩
      have hm : markI part = 1 := by unfold markI; rw [if_neg (by rw [h]; decide), if_neg (by rw [h']; decide)]
      refine ⟨0, by congr 2, by omega, ?_, ?_, k2⟩
      · unfold bareS; rw [if_pos hm, ← hpt]; rfl
      · rw [hm]; exact b2
    rintro x2 w3 ⟨d, hv, hd, hbare, b3, k3⟩
    have hv : x2 = ((fr + d : Nat) : Int) := by simpa using hv
    subst hv
    have ed : (((fr + d : Nat) : Int)).toNat = fr + d := Int.toNat_natCast _
    rw [ed, ← hbare]
    refine ⟨⟨by omega, by omega, by omega⟩, ⟨(rcompile_any (bareS part) w3).mono fun e w4 ⟨hk4, he⟩ => ?_⟩⟩
    have bsz : (bareS part).size = i - (fr + d) := by rw [hbare, ByteArray.size_extract]; omega
    have b4 := hk4.blk b3 (fun h => h)
    cases hc : compileR (bareS part) with
    | inr oe =>
      obtain ⟨o, er⟩ := oe
      rw [hc] at he hE
      have hoe := compileR_off _ _ _ hc
      refine ⟨_, _, _, _, _, _, he, fun n3 w5 hn3 => ⟨WrL_block hn3.block (by simp), fun w6 hp6 => bsp_intro (fun _ => ⟨?_, ?_⟩) (fun h => ?_)⟩⟩
      · exact ((hk.trans k3).trans (hk4.trans (hn3.kp _))).fresh hp6.kp (fun i hi e => by have := ((hk.trans k3).trans hk4).size; have := hn3.ge; omega)
      · rw [← hE]
        simp only
        rw [wr64 (by omega) (by omega), psz, bsz, show (fr : Int) + ((i - fr : Nat) : Int) - ((i - (fr + d) : Nat) : Int) + (o : Int) = ((fr + d : Nat) : Int) + (o : Int) by omega]
      · exfalso
        apply hoe.2
        simpa using h
    | inl els =>
      rw [hc] at he hE
      obtain ⟨q, cq, rs, he, hrow, hre⟩ := he
      refine ⟨_, _, _, _, _, _, he, fun n3 w5 hn3 => ⟨WrL_block hn3.block (by simp), fun w6 hp6 => bsp_intro (fun h => absurd h (by decide)) (fun _ => ?_)⟩⟩
      have k6 : K0 w4 w6 := (hn3.kp (fun _ => False)).fresh hp6.kp (fun i hi e => by have := hn3.ge; omega)
      have c6 := hp6.full hn3.block rfl
      have b6 := k6.blk b4 (fun h => h)
      refine ⟨_, _, _, _, AtL_block c6 rfl, WrL_block b6 (by simp), fun w7 hp7 => ?_⟩
      have b7 : w7.heap[n1]? = some (.cells #[.int .i64 (markI part), .string (bareS part), .slice q rs.length cq] 122 (0, 0)) := by
        have := hp7.block b6
        simpa [putL] using this
      have k7 : K0 w' w7 := ((k3.trans hk4).trans k6).fresh hp7.kp (fun i hi e => by omega)
      refine ⟨_, _, _, _, _, AtL_block b7 rfl, fun n6 w8 hn8 => ?_⟩
      have hL7 := hL.kp k7
      have hr7 : w7.ownsRow w.heap.size 150 129 (.slice q rs.length cq) rs.length (rows rs) := by
        have h4 : w4.ownsRow w.heap.size 150 129 (.slice q rs.length cq) rs.length (rows rs) := ⟨hrow.1, hrow.2.imp id fun ⟨g, cap, cur, a1, a2, a3⟩ => ⟨g, cap, cur, a1, by have := (hk.trans k3).size; omega, a3⟩⟩
        refine owns_kp (owns_kp h4 k6 (fun _ _ h => h)) hp7.kp (fun k hk e => ?_)
        obtain ⟨cc, hcc⟩ := own_type (owns_kp h4 k6 (fun _ _ h => h)) hk
        rw [e, b6] at hcc
        simp at hcc
      refine app1 hL7.row (hk.trans k7).size hn8 rfl (fun u hu => by simp at hu; rcases hu with rfl | rfl | rfl <;> rfl) (by omega) (by omega) (fun p9 c9 w9 ho9 hk9 _ => ?_)
      have keepE : ∀ (y : RItA), w7.ownsRow w.heap.size 150 129 (.slice y.2.1 y.1.rs.length y.2.2) y.1.rs.length (rows y.1.rs) → w9.ownsRow w.heap.size 150 129 (.slice y.2.1 y.1.rs.length y.2.2) y.1.rs.length (rows y.1.rs) := fun y hy =>
        owns_kp hy hk9 (fun k hk e => by
          obtain ⟨c1, h1⟩ := own_type hy hk
          obtain ⟨c2, h2⟩ := own_type hL7.row e
          rw [h1] at h2
          simp at h2)
      refine ⟨⟨i + 1, i + 1, acc ++ [⟨bareS part, els, markI part⟩], p9, n + 1, c9, L ++ [(⟨bareS part, rs, markI part⟩, q, cq)], by congr 2, by omega, ?_, ⟨?_, ?_, ?_⟩, ?_, ?_, ?_⟩, by simp only; omega⟩
      · rw [List.map_append]
        exact hrel.snoc ⟨rfl, rfl, hre⟩
      · rw [List.length_append, ← hL.len]; rfl
      · rw [List.flatMap_append]; exact ho9
      · intro y hy
        rcases List.mem_append.1 hy with h | h
        · exact keepE y (hL7.els y h)
        · simp at h; subst h; exact keepE _ hr7
      · exact (hk.trans k7).fresh hk9 (fun i hi e => by have := own_ge hL7.row e; omega)
      · simp; omega
      · have hE' : entsS ps ((i : Int) + 1) (acc ++ [⟨bareS part, els, markI part⟩]) = G := by
          rw [← hE]
          simp only
          congr 1
          rw [psz]; omega
        rw [hnx] at hE'
        by_cases hlt : i < s.size
        · rw [if_pos hlt] at hE'
          exact .inl ⟨by omega, by omega, hE', fun j h1 h2 => by omega⟩
        · rw [if_neg hlt] at hE'
          exact .inr ⟨by omega, hE'.symm⟩
  · have hgt : ¬ i ≤ s.size := by simp at hgt; omega
    rcases hst with h | ⟨_, hGa⟩
    · omega
    refine ⟨hk, ?_⟩
    rw [hGa]
    exact ⟨p, n, c, L, rfl, hL, hrel⟩

end Go.Proofs.YtcpjajjocmpkjaaDoor
