/- The formulas of functions by the symbolic evaluator, and that each gives the call's contract. Written by a program (gen.py). No condition. -/
import Derived.Test.YtcpjajjocmpkjaaDoorProg
import Derived.Test.YtcpjajjocmpkjaaDoorZ02
import Derived.Test.YtcpjajjocmpkjaaDoorZ04
import Derived.KernelRfl
import Derived.Test.YtcpjajjocmpkjaaDoorZ09
import Derived.Test.YtcpjajjocmpkjaaDoorZ07
namespace Go.Proofs.YtcpjajjocmpkjaaDoor
set_option maxRecDepth 100000
set_option linter.unusedVariables false

def VC_rparseList (s : ByteArray) (w : World) (R : Ending → World → Prop) : Prop :=
 bsp (s.toList == [])
 (R (Ending.returned (Value.tuple #[Value.slice none 0 0, Value.int IntKind.i64 0, Value.int IntKind.i64 4])) w)
 (∃ (I : List Value → World → Prop),
 ∃ (m : List Value → World → Nat),
 I [Value.int IntKind.i64 0, Value.int IntKind.i64 0, Value.slice none 0 0] w ∧
 ∀ (x x_1 : Int) (p : Option Addr) (n c : Nat) (w' : World),
 I [Value.int IntKind.i64 x, Value.int IntKind.i64 x_1, Value.slice p n c] w' →
 bsp (decide (x ≤ (↑s.size : Int)))
 (gimp (decide (x < (↑s.size : Int))) (0 ≤ x ∧ x < (↑s.size : Int)) ∧
 bsp (decide (x < (↑s.size : Int)) && at8 s x.toNat != 44)
 (I [Value.int IntKind.i64 (IntKind.i64.wrap (x + 1)), Value.int IntKind.i64 x_1, Value.slice p n c] w' ∧
 m [Value.int IntKind.i64 (IntKind.i64.wrap (x + 1)), Value.int IntKind.i64 x_1, Value.slice p n c] w' <
 m [Value.int IntKind.i64 x, Value.int IntKind.i64 x_1, Value.slice p n c] w')
 (bsp ((↑n : Int) == 64)
 (R (Ending.returned (Value.tuple #[Value.slice none 0 0, Value.int IntKind.i64 x_1, Value.int IntKind.i64 9]))
 w')
 (∀ (n_1 : Nat) (w1 : World),
 NewB w' (Obj.cells #[Value.int IntKind.i64 0, Value.string (ByteArray.mk #[]), Value.slice none 0 0] 122) n_1
 w1 →
 WrL w1 n_1 0 3 ∧
 ∀ (w1_1 : World),
 PutB w1 n_1 0 [Value.int IntKind.i64 1, Value.string (ByteArray.mk #[]), Value.slice none 0 0] w1_1 →
 ∃ (J : List Value → World → Prop),
 (gimp (decide (x_1 < x)) (0 ≤ x_1 ∧ x_1 < (↑s.size : Int)) ∧
 bsp (decide (x_1 < x) && at8 s x_1.toNat == 33)
 (((∃ (u : Value), w1_1.cell? (Addr.mk n_1 0 none) = some u) ∧
 w1_1.frozen? (Addr.mk n_1 0 none) = false) ∧
 ∀ (w1 : World),
 PutB w1_1 n_1 0 [Value.int IntKind.i64 2] w1 →
 J [Value.int IntKind.i64 (IntKind.i64.wrap (x_1 + 1))] w1)
 (gimp (decide (x_1 < x)) (0 ≤ x_1 ∧ x_1 < (↑s.size : Int)) ∧
 bsp (decide (x_1 < x) && at8 s x_1.toNat == 64)
 (((∃ (u : Value), w1_1.cell? (Addr.mk n_1 0 none) = some u) ∧
 w1_1.frozen? (Addr.mk n_1 0 none) = false) ∧
 ∀ (w1 : World),
 PutB w1_1 n_1 0 [Value.int IntKind.i64 3] w1 →
 J [Value.int IntKind.i64 (IntKind.i64.wrap (x_1 + 1))] w1)
 (J [Value.int IntKind.i64 x_1] w1_1))) ∧
 ∀ (x_2 : Int) (w'_1 : World),
 J [Value.int IntKind.i64 x_2] w'_1 →
 (0 ≤ x_2 ∧ x_2 ≤ x ∧ x ≤ (↑s.size : Int)) ∧
 CallsS Tryd.prog 56 #[Value.string (s.extract x_2.toNat x.toNat)] w'_1
 fun (e : Ending) (w'_2 : World) =>
 ∃ (x_3 : ByteArray),
 ∃ (p_1 : Option Addr),
 ∃ (n_2 : Nat),
 ∃ (c_1 : Nat),
 ∃ (x_4 : Int),
 ∃ (x_5 : Int),
 e =
 Ending.returned
 (Value.tuple
 #[Value.agg #[Value.string x_3, Value.slice p_1 n_2 c_1], Value.int IntKind.i64 x_4,
 Value.int IntKind.i64 x_5]) ∧
 ∀ (n_3 : Nat) (w1 : World),
 NewB w'_2 (Obj.cells #[Value.string (ByteArray.mk #[]), Value.slice none 0 0] 120) n_3 w1 →
 WrL w1 n_3 0 2 ∧
 ∀ (w1_2 : World),
 PutB w1 n_3 0 [Value.string x_3, Value.slice p_1 n_2 c_1] w1_2 →
 bsp (x_5 != 0)
 (R
 (Ending.returned
 (Value.tuple
 #[Value.slice none 0 0, Value.int IntKind.i64 (IntKind.i64.wrap (x_2 + x_4)),
 Value.int IntKind.i64 x_5]))
 w1_2)
 (∃ (x_6 : ByteArray),
 ∃ (p_2 : Option Addr),
 ∃ (n_4 : Nat),
 ∃ (c_2 : Nat),
 AtL w1_2 n_3 0 [Value.string x_6, Value.slice p_2 n_4 c_2] ∧
 WrL w1_2 n_1 (0 + 1) 2 ∧
 ∀ (w1 : World),
 PutB w1_2 n_1 (0 + 1) [Value.string x_6, Value.slice p_2 n_4 c_2] w1 →
 ∃ (x_7 : Int),
 ∃ (x_8 : ByteArray),
 ∃ (p_3 : Option Addr),
 ∃ (n_5 : Nat),
 ∃ (c_3 : Nat),
 AtL w1 n_1 0
 [Value.int IntKind.i64 x_7, Value.string x_8,
 Value.slice p_3 n_5 c_3] ∧
 ∀ (n_6 : Nat) (w1_3 : World),
 NewB w1
 (Obj.cells
 #[Value.int IntKind.i64 x_7, Value.string x_8,
 Value.slice p_3 n_5 c_3]
 122)
 n_6 w1_3 →
 ∃ (base : Nat),
 ∃ (xs : List Value),
 ∃ (news : List Value),
 w1_3.ownsRow base 122 3 (Value.slice p n c) n xs ∧
 news.length = 3 ∧
 SrcP w1_3 (some (Addr.mk n_6 0 none)) news ∧
 n + 1 ≤ 9223372036854775807 ∧
 (n + 1) * 48 ≤ 140737488355328 ∧
 base ≤ w1_3.heap.size ∧
 ∀ (p' : Option Addr) (c' : Nat) (w'_3 : World),
 w'_3.ownsRow base 122 3 (Value.slice p' (n + 1) c') (n + 1)
 (xs ++ news) →
 w1_3.grownBy w'_3 (Value.slice p n c).ownBlock →
 I
 [Value.int IntKind.i64 (IntKind.i64.wrap (x + 1)),
 Value.int IntKind.i64 (IntKind.i64.wrap (x + 1)),
 Value.slice p' (n + 1) c']
 w'_3 ∧
 m
 [Value.int IntKind.i64 (IntKind.i64.wrap (x + 1)),
 Value.int IntKind.i64 (IntKind.i64.wrap (x + 1)),
 Value.slice p' (n + 1) c']
 w'_3 <
 m
 [Value.int IntKind.i64 x, Value.int IntKind.i64 x_1,
 Value.slice p n c]
 w'))))
 (R (Ending.returned (Value.tuple #[Value.slice p n c, Value.int IntKind.i64 0, Value.int IntKind.i64 0])) w'))
theorem vc_rparseList (s : ByteArray) (w : World) (R : Ending → World → Prop) (h : VC_rparseList s w R) : Calls Tryd.prog 33 ([Value.string
    s] : List Value).toArray w R := by
  have e : execR { P := Tryd.prog, loops := [(6, [(7, Ck.int IntKind.i64), (6, Ck.int IntKind.i64), (5, Ck.slice)])], pur := pur1, tails := [], joins := [(19, [(9, Ck.int IntKind.i64)])], boxes := [] } Tryd.f33.results.toList R (Tryd.f33.body.getD .skip) (initF [Value.string
    s] (Tryd.f33.ntmps - ([Value.string s] : List Value).length)) w = VC_rparseList s w R := by kernel_rfl
  have hb : Tryd.f33.body = some (Tryd.f33.body.getD .skip) := by kernel_rfl
  exact calls_of_exec' (P := Tryd.prog) (fn := Tryd.f33) (c := Tryd.f33.body.getD .skip) (args := [Value.string
    s]) (w := w) (R := R) pur1_ok Tryd.func33 hb e h

end Go.Proofs.YtcpjajjocmpkjaaDoor

/- The contract of the reference's ParseList: it agrees with the program's. The text has at most 2^30 bytes. -/
namespace Go.Proofs.YtcpjajjocmpkjaaDoor
open Go.RowKit

/-- An entry of the reference's list, and where its elements lie. -/
abbrev RItA := REnt × Option Addr × Nat
def ritC (x : RItA) : List Value := [.int .i64 x.1.v, .string x.1.t, .slice x.2.1 x.1.rs.length x.2.2]
/-- The reference's list in the memory. -/
structure RLst (base : Nat) (w : World) (p : Option Addr) (n c : Nat) (L : List RItA) : Prop where
  len : n = L.length
  row : w.ownsRow base 122 3 (.slice p n c) n (L.flatMap ritC)
  els : ∀ x ∈ L, w.ownsRow base 150 129 (.slice x.2.1 x.1.rs.length x.2.2) x.1.rs.length (rows x.1.rs)
theorem RLst.kp {base : Nat} {w w' : World} {p : Option Addr} {n c : Nat} {L : List RItA} (h : RLst base w p n c L) (hk : K0 w w') : RLst base w' p n c L :=
  ⟨h.len, owns_kp h.row hk (fun _ _ h => h), fun x hx => owns_kp (h.els x hx) hk (fun _ _ h => h)⟩
theorem hp1 (x : ByteArray) (c : UInt8) : Lib.hasPrefix x.data.toList [c] = (decide (0 < x.size) && at8 x 0 == (c.toNat : Int)) := by
  have hl : x.data.toList.length = x.size := x.data.length_toList
  cases hd : x.data.toList with
  | nil =>
    rw [hd] at hl
    have : ¬ 0 < x.size := by simp at hl; omega
    simp [this, Lib.hasPrefix]
  | cons a r =>
    have h0 : 0 < x.size := by rw [hd] at hl; simp at hl; omega
    have g := at8_byte h0
    rw [hd] at g
    simp at g
    have hb := at8_bd x 0
    have ea : at8 x 0 = (a.toNat : Int) := by
      rw [g, UInt8.toNat_ofNat']
      omega
    rw [ea]
    simp only [Lib.hasPrefix, List.isPrefixOf, h0, decide_true, Bool.true_and, Bool.and_true]
    rw [Bool.eq_iff_iff]
    simp only [beq_iff_eq]
    constructor
    · rintro rfl; rfl
    · intro h
      apply UInt8.toNat_inj.1
      omega
theorem ext_ext (s : ByteArray) (a b i j : Nat) (h : a + j ≤ b) : (s.extract a b).extract i j = s.extract (a + i) (a + j) := by
  rw [ByteArray.extract_extract]
  congr 1
  omega

set_option maxHeartbeats 1000000 in
theorem rparseList_any (s : ByteArray) (w : World) (hs : s.size ≤ 1073741824) : Calls Tryd.prog 33 #[.string s] w fun e w' => K0 w w' ∧
    match listR s with
    | .inl es => ∃ p n c L, e = .returned (.tuple #[.slice p n c, .int .i64 0, .int .i64 0]) ∧ RLst w.heap.size w' p n c L ∧ RelEnts es (L.map (·.1))
    | .inr (o, x) => e = .returned (.tuple #[.slice none 0 0, .int .i64 o, .int .i64 x]) := by
  refine vc_rparseList s w _ ?_
  unfold VC_rparseList
  rw [toList_nil]
  refine bsp_intro (fun h0 => ⟨.refl _ _, ?_⟩) (fun h0 => ?_)
  · have h0 : s.size = 0 := by simpa using h0
    unfold listR; rw [if_pos h0]
  have h0 : ¬ s.size = 0 := by simpa using h0
  have hR : listR s = entsS (partsS s) 0 [] := by unfold listR; rw [if_neg h0]
  rw [hR]
  generalize hG : entsS (partsS s) 0 [] = G
  refine ⟨fun vs w' => ∃ (i fr : Nat) (acc : List Ent) (p : Option Addr) (n c : Nat) (L : List RItA), vs = [.int .i64 i, .int .i64 fr, .slice p n c] ∧ i ≤ s.size + 1 ∧ RelEnts acc (L.map (·.1)) ∧ RLst w.heap.size w' p n c L ∧ K0 w w' ∧ acc.length ≤ 64 ∧
      ((i ≤ s.size ∧ fr ≤ i ∧ entsS (partsS (s.extract fr s.size)) fr acc = G ∧ ∀ j, fr ≤ j → j < i → at8 s j ≠ 44) ∨ (i = s.size + 1 ∧ G = .inl acc)),
    fun vs _ => (match vs with | .int _ x :: _ => s.size + 1 - x.toNat | _ => 0), ⟨0, 0, [], none, 0, 0, [], rfl, by omega, ⟨rfl, fun j e r h _ => by simp at h⟩, ⟨rfl, World.ownsRow_nil _ _ _ _, fun x hx => by cases hx⟩, .refl _ _, by simp, .inl ⟨by omega, by omega, ?_, fun j _ hj => by omega⟩⟩, ?_⟩
  · rw [show s.extract 0 s.size = s from ByteArray.extract_zero_size]; exact hG
  rintro x x1 p n c w' ⟨i, fr, acc, p', n', c', L, hv, hi, hrel, hL, hk, h64, hst⟩
  simp only [List.cons.injEq, Value.int.injEq, Value.slice.injEq, true_and, and_true] at hv
  obtain ⟨rfl, rfl, rfl, rfl, rfl⟩ := hv
  have hnl : n = acc.length := by rw [hL.len, hrel.len, List.length_map]
  refine bsp_intro (fun hle => ?_) (fun hgt => ?_)
  · have hle : i ≤ s.size := by simp at hle; omega
    obtain ⟨_, hfr, hE, hno⟩ : i ≤ s.size ∧ fr ≤ i ∧ entsS (partsS (s.extract fr s.size)) fr acc = G ∧ ∀ j, fr ≤ j → j < i → at8 s j ≠ 44 := by
      rcases hst with h | h
      · exact h
      · omega
    have ei : (i : Int).toNat = i := by omega
    rw [ei, wr64 (x := (i : Int) + 1) (by omega) (by omega)]
    refine ⟨gimp_intro fun h => ⟨by omega, by simpa using h⟩, bsp_intro (fun hc => ?_) (fun hc => ?_)⟩
    · have hlt : i < s.size := by simp at hc; omega
      have h44 : at8 s i ≠ 44 := by simp at hc; exact hc.2
      refine ⟨⟨i + 1, fr, acc, p, n, c, L, by congr 2, by omega, hrel, hL, hk, h64, .inl ⟨by omega, by omega, hE, fun j h1 h2 => ?_⟩⟩, by simp only; omega⟩
      by_cases e : j = i
      · rw [e]; exact h44
      · exact hno j h1 (by omega)
    -- a part ends here
    have hrsz : (s.extract fr s.size).size = s.size - fr := by rw [ByteArray.size_extract]; omega
    obtain ⟨ps, hps, hnx⟩ : ∃ ps, partsS (s.extract fr s.size) = s.extract fr i :: ps ∧ ∀ acc', entsS ps ((i : Int) + 1) acc' = (if i < s.size then entsS (partsS (s.extract (i + 1) s.size)) ((i : Int) + 1) acc' else .inl acc') := by
      by_cases hlt : i < s.size
      · have h44 : at8 s i = 44 := by
          have : decide ((i : Int) < (s.size : Int)) = true := by simp; omega
          rw [this] at hc
          simpa using hc
        refine ⟨_, ?_, fun acc' => (if_pos hlt).symm⟩
        have := parts_hit (s := s.extract fr s.size) (i := i - fr) (by omega) (by rw [at8_extract s fr s.size (i - fr) (by omega) (Nat.le_refl _), show fr + (i - fr) = i by omega]; exact h44) (fun j hj => by
          rw [at8_extract s fr s.size j (by omega) (Nat.le_refl _)]; exact hno _ (by omega) (by omega))
        rw [this, ext_ext s fr s.size 0 (i - fr) (by omega), hrsz, ext_ext s fr s.size (i - fr + 1) (s.size - fr) (by omega)]
        rw [show fr + 0 = fr by omega, show fr + (i - fr) = i by omega, show fr + (i - fr + 1) = i + 1 by omega, show fr + (s.size - fr) = s.size by omega]
      · have e : i = s.size := by omega
        refine ⟨[], ?_, fun acc' => by rw [if_neg hlt]; rfl⟩
        rw [parts_miss (fun j hj => by rw [at8_extract s fr s.size j (by omega) (Nat.le_refl _)]; exact hno _ (by omega) (by omega)), e]
    rw [hps] at hE
    generalize hpt : s.extract fr i = part at *
    have psz : part.size = i - fr := by rw [← hpt, ByteArray.size_extract]; omega
    have pat : 0 < part.size → at8 part 0 = at8 s fr := fun h => by rw [← hpt, at8_extract s fr i 0 (by omega) hle]; rfl
    unfold entsS at hE
    refine bsp_intro (fun hn => ⟨hk, ?_⟩) (fun hn => ?_)
    · have hn : acc.length = 64 := by simp at hn; omega
      rw [if_pos hn] at hE
      rw [← hE]
    have hn : ¬ acc.length = 64 := by simp at hn; omega
    rw [if_neg hn] at hE
    intro n1 w1 hn1
    refine ⟨WrL_block hn1.block (by simp), fun w2 hp2 => ?_⟩
    have b2 : w2.heap[n1]? = some (.cells #[.int .i64 1, .string ⟨#[]⟩, .slice none 0 0] 122 (0, 0)) := hp2.full hn1.block rfl
    have g1 : w'.heap.size ≤ n1 := hn1.ge
    have k2 : K0 w' w2 := (hn1.kp _).fresh hp2.kp (fun i hi e => by omega)
    have efr : (fr : Int).toNat = fr := by omega
    rw [efr, wr64 (x := (fr : Int) + 1) (by omega) (by omega)]
    -- the mark of a part
    have h33 : (decide ((fr : Int) < (i : Int)) && at8 s fr == 33) = Lib.hasPrefix part.data.toList [33] := by
      rw [hp1]
      by_cases h : fr < i
      · have h1 : decide ((fr : Int) < (i : Int)) = true := by simp; omega
        have h2 : decide (0 < part.size) = true := decide_eq_true (by omega)
        rw [h1, h2, pat (by omega)]; rfl
      · have h1 : decide ((fr : Int) < (i : Int)) = false := by simp; omega
        have h2 : decide (0 < part.size) = false := decide_eq_false (by omega)
        rw [h1, h2]; rfl
    have h64' : (decide ((fr : Int) < (i : Int)) && at8 s fr == 64) = Lib.hasPrefix part.data.toList [64] := by
      rw [hp1]
      by_cases h : fr < i
      · have h1 : decide ((fr : Int) < (i : Int)) = true := by simp; omega
        have h2 : decide (0 < part.size) = true := decide_eq_true (by omega)
        rw [h1, h2, pat (by omega)]; rfl
      · have h1 : decide ((fr : Int) < (i : Int)) = false := by simp; omega
        have h2 : decide (0 < part.size) = false := decide_eq_false (by omega)
        rw [h1, h2]; rfl
    rw [h33, h64']
    have hgi : gimp (decide ((fr : Int) < (i : Int))) (0 ≤ (fr : Int) ∧ (fr : Int) < (s.size : Int)) := gimp_intro fun h => ⟨by omega, by simp at h; omega⟩
    refine ⟨fun vs wx => ∃ d : Nat, vs = [.int .i64 ((fr + d : Nat) : Int)] ∧ fr + d ≤ i ∧ bareS part = s.extract (fr + d) i ∧ wx.heap[n1]? = some (.cells #[.int .i64 (markI part), .string ⟨#[]⟩, .slice none 0 0] 122 (0, 0)) ∧ K0 w' wx, ?_, ?_⟩
    · have one : ∀ (m : Int) (wx : World), (Lib.hasPrefix part.data.toList [33] = true ∨ Lib.hasPrefix part.data.toList [64] = true) → markI part = m → PutB w2 n1 0 [.int .i64 m] wx → ∃ d : Nat, [Value.int .i64 ((fr : Int) + 1)] = [Value.int .i64 ((fr + d : Nat) : Int)] ∧ fr + d ≤ i ∧ bareS part = s.extract (fr + d) i ∧ wx.heap[n1]? = some (.cells #[.int .i64 (markI part), .string ⟨#[]⟩, .slice none 0 0] 122 (0, 0)) ∧ K0 w' wx := fun m wx hor hm hp => by
        have hpos : 1 ≤ part.size := by rcases hor with h | h <;> exact hasPrefix1 h
        refine ⟨1, by congr 2, by omega, ?_, ?_, k2.fresh hp.kp (fun i hi e => by omega)⟩
        · unfold bareS
          rw [if_neg (by
            unfold markI
            rcases hor with h | h
            · rw [if_pos h]; decide
            · split <;> decide)]
          rw [psz, ← hpt, ext_ext s fr i 1 (i - fr) (by omega), show fr + (i - fr) = i by omega]
        · rw [hm]; exact hp.block b2
      refine ⟨hgi, bsp_intro (fun h => ⟨cell_wr b2 (by simp), fun w3 hp3 => one 2 w3 (.inl h) (by unfold markI; rw [if_pos h]) hp3⟩) (fun h => ⟨hgi, bsp_intro (fun h' => ⟨cell_wr b2 (by simp), fun w3 hp3 => one 3 w3 (.inr h') (by unfold markI; rw [if_neg (by rw [h]; decide), if_pos h']) hp3⟩) (fun h' => ?_)⟩)⟩
      have hm : markI part = 1 := by unfold markI; rw [if_neg (by rw [h]; decide), if_neg (by rw [h']; decide)]
      refine ⟨0, by congr 2, by omega, ?_, ?_, k2⟩
      · unfold bareS; rw [if_pos hm, ← hpt]; rfl
      · rw [hm]; exact b2
    rintro x2 w3 ⟨d, hv, hd, hbare, b3, k3⟩
    have hv : x2 = ((fr + d : Nat) : Int) := by simpa using hv
    subst hv
    have ed : (((fr + d : Nat) : Int)).toNat = fr + d := Int.toNat_natCast _
    rw [ed, ← hbare]
    refine ⟨⟨by omega, by omega, by omega⟩, ⟨(rcompile_any (bareS part) w3).mono fun e w4 ⟨hk4, he⟩ => ?_⟩⟩
    have bsz : (bareS part).size = i - (fr + d) := by rw [hbare, ByteArray.size_extract]; omega
    have b4 := hk4.blk b3 (fun h => h)
    cases hc : compileR (bareS part) with
    | inr oe =>
      obtain ⟨o, er⟩ := oe
      rw [hc] at he hE
      have hoe := compileR_off _ _ _ hc
      refine ⟨_, _, _, _, _, _, he, fun n3 w5 hn3 => ⟨WrL_block hn3.block (by simp), fun w6 hp6 => bsp_intro (fun _ => ⟨?_, ?_⟩) (fun h => ?_)⟩⟩
      · exact ((hk.trans k3).trans (hk4.trans (hn3.kp _))).fresh hp6.kp (fun i hi e => by have := ((hk.trans k3).trans hk4).size; have := hn3.ge; omega)
      · rw [← hE]
        simp only
        rw [wr64 (by omega) (by omega), psz, bsz, show (fr : Int) + ((i - fr : Nat) : Int) - ((i - (fr + d) : Nat) : Int) + (o : Int) = ((fr + d : Nat) : Int) + (o : Int) by omega]
      · exfalso
        apply hoe.2
        simpa using h
    | inl els =>
      rw [hc] at he hE
      obtain ⟨q, cq, rs, he, hrow, hre⟩ := he
      refine ⟨_, _, _, _, _, _, he, fun n3 w5 hn3 => ⟨WrL_block hn3.block (by simp), fun w6 hp6 => bsp_intro (fun h => absurd h (by decide)) (fun _ => ?_)⟩⟩
      have k6 : K0 w4 w6 := (hn3.kp (fun _ => False)).fresh hp6.kp (fun i hi e => by have := hn3.ge; omega)
      have c6 := hp6.full hn3.block rfl
      have b6 := k6.blk b4 (fun h => h)
      refine ⟨_, _, _, _, AtL_block c6 rfl, WrL_block b6 (by simp), fun w7 hp7 => ?_⟩
      have b7 : w7.heap[n1]? = some (.cells #[.int .i64 (markI part), .string (bareS part), .slice q rs.length cq] 122 (0, 0)) := by
        have := hp7.block b6
        simpa [putL] using this
      have k7 : K0 w' w7 := ((k3.trans hk4).trans k6).fresh hp7.kp (fun i hi e => by omega)
      refine ⟨_, _, _, _, _, AtL_block b7 rfl, fun n6 w8 hn8 => ?_⟩
      have hL7 := hL.kp k7
      have hr7 : w7.ownsRow w.heap.size 150 129 (.slice q rs.length cq) rs.length (rows rs) := by
        have h4 : w4.ownsRow w.heap.size 150 129 (.slice q rs.length cq) rs.length (rows rs) := ⟨hrow.1, hrow.2.imp id fun ⟨g, cap, cur, a1, a2, a3⟩ => ⟨g, cap, cur, a1, by have := (hk.trans k3).size; omega, a3⟩⟩
        refine owns_kp (owns_kp h4 k6 (fun _ _ h => h)) hp7.kp (fun k hk e => ?_)
        obtain ⟨cc, hcc⟩ := own_type (owns_kp h4 k6 (fun _ _ h => h)) hk
        rw [e, b6] at hcc
        simp at hcc
      refine app1 hL7.row (hk.trans k7).size hn8 rfl (fun u hu => by simp at hu; rcases hu with rfl | rfl | rfl <;> rfl) (by omega) (by omega) (fun p9 c9 w9 ho9 hk9 _ => ?_)
      have keepE : ∀ (y : RItA), w7.ownsRow w.heap.size 150 129 (.slice y.2.1 y.1.rs.length y.2.2) y.1.rs.length (rows y.1.rs) → w9.ownsRow w.heap.size 150 129 (.slice y.2.1 y.1.rs.length y.2.2) y.1.rs.length (rows y.1.rs) := fun y hy =>
        owns_kp hy hk9 (fun k hk e => by
          obtain ⟨c1, h1⟩ := own_type hy hk
          obtain ⟨c2, h2⟩ := own_type hL7.row e
          rw [h1] at h2
          simp at h2)
      refine ⟨⟨i + 1, i + 1, acc ++ [⟨bareS part, els, markI part⟩], p9, n + 1, c9, L ++ [(⟨bareS part, rs, markI part⟩, q, cq)], by congr 2, by omega, ?_, ⟨?_, ?_, ?_⟩, ?_, ?_, ?_⟩, by simp only; omega⟩
      · rw [List.map_append]
        exact hrel.snoc ⟨rfl, rfl, hre⟩
      · rw [List.length_append, ← hL.len]; rfl
      · rw [List.flatMap_append]; exact ho9
      · intro y hy
        rcases List.mem_append.1 hy with h | h
        · exact keepE y (hL7.els y h)
        · simp at h; subst h; exact keepE _ hr7
      · exact (hk.trans k7).fresh hk9 (fun i hi e => by have := own_ge hL7.row e; omega)
      · simp; omega
      · have hE' : entsS ps ((i : Int) + 1) (acc ++ [⟨bareS part, els, markI part⟩]) = G := by
          rw [← hE]
          simp only
          congr 1
          rw [psz]; omega
        rw [hnx] at hE'
        by_cases hlt : i < s.size
        · rw [if_pos hlt] at hE'
          exact .inl ⟨by omega, by omega, hE', fun j h1 h2 => by omega⟩
        · rw [if_neg hlt] at hE'
          exact .inr ⟨by omega, hE'.symm⟩
  · have hgt : ¬ i ≤ s.size := by simp at hgt; omega
    rcases hst with h | ⟨_, hGa⟩
    · omega
    refine ⟨hk, ?_⟩
    rw [hGa]
    exact ⟨p, n, c, L, rfl, hL, hrel⟩

end Go.Proofs.YtcpjajjocmpkjaaDoor

/- The formulas of functions by the symbolic evaluator, and that each gives the call's contract. Written by a program (gen.py). No condition. -/
namespace Go.Proofs.YtcpjajjocmpkjaaDoor
set_option maxRecDepth 100000
set_option linter.unusedVariables false

def VC_has (p : Option Addr) (n : Nat) (c : Nat) (s : ByteArray) (w : World) (R : Ending → World → Prop) : Prop :=
 ∃ (I : List Value → World → Prop),
 ∃ (m : List Value → World → Nat),
 I [Value.int IntKind.i64 0] w ∧
 ∀ (x : Int) (w' : World),
 I [Value.int IntKind.i64 x] w' →
 bsp (decide (x < (↑n : Int)))
 (nn true p fun (b o : Nat) =>
 (0 ≤ x ∧ x < (↑n : Int)) ∧
 ∃ (x_1 : ByteArray),
 w'.cell? (Addr.mk b (o + x.toNat) none) = some (Value.string x_1) ∧
 bsp (x_1.toList == s.toList) (R (Ending.returned (Value.bool true)) w')
 (I [Value.int IntKind.i64 (IntKind.i64.wrap (x + 1))] w' ∧
 m [Value.int IntKind.i64 (IntKind.i64.wrap (x + 1))] w' < m [Value.int IntKind.i64 x] w'))
 (R (Ending.returned (Value.bool false)) w')
theorem vc_has (p : Option Addr) (n : Nat) (c : Nat) (s : ByteArray) (w : World) (R : Ending → World → Prop) (h : VC_has p n c s w R) : Calls Tryd.prog 35 ([Value.slice
    p n c,
  Value.string s] : List Value).toArray w R := by
  have e : execR { P := Tryd.prog, loops := [(2, [(5, Ck.int IntKind.i64)])], pur := pur1, tails := [], joins := [], boxes := [] } Tryd.f35.results.toList R (Tryd.f35.body.getD .skip) (initF [Value.slice
    p n c,
  Value.string
    s] (Tryd.f35.ntmps - ([Value.slice p n c,
  Value.string s] : List Value).length)) w = VC_has p n c s w R := by kernel_rfl
  have hb : Tryd.f35.body = some (Tryd.f35.body.getD .skip) := by kernel_rfl
  exact calls_of_exec' (P := Tryd.prog) (fn := Tryd.f35) (c := Tryd.f35.body.getD .skip) (args := [Value.slice p n c,
  Value.string s]) (w := w) (R := R) pur1_ok Tryd.func35 hb e h

def VC_rcheck (nb : ByteArray) (ps : ByteArray) (mb : Int) (dl : Int) (p : Option Addr) (n : Nat) (c : Nat) (w : World) (R : Ending → World → Prop) : Prop :=
 ∀ (n_1 : Nat) (w1 : World),
 NewB w
 (Obj.cells #[Value.string nb, Value.string ps, Value.int IntKind.i64 mb, Value.int IntKind.i64 dl, Value.slice p n c]
 24)
 n_1 w1 →
 ∃ (x : ByteArray),
 w1.cell? (Addr.mk n_1 0 none) = some (Value.string x) ∧
 CallsS Tryd.prog 32 #[Value.string x] w1 fun (e : Ending) (w' : World) =>
 ∃ (x : Int),
 ∃ (x_1 : Int),
 e = Ending.returned (Value.tuple #[Value.int IntKind.i64 x, Value.int IntKind.i64 x_1]) ∧
 bsp (x_1 != 0) (R (Ending.returned (Value.int IntKind.i64 x_1)) w')
 (∃ (x : ByteArray),
 w'.cell? (Addr.mk n_1 (0 + 1) none) = some (Value.string x) ∧
 CallsS Tryd.prog 33 #[Value.string x] w' fun (e : Ending) (w' : World) =>
 ∃ (p : Option Addr),
 ∃ (n : Nat),
 ∃ (c : Nat),
 ∃ (x : Int),
 ∃ (x_2 : Int),
 e =
 Ending.returned
 (Value.tuple #[Value.slice p n c, Value.int IntKind.i64 x, Value.int IntKind.i64 x_2]) ∧
 bsp (x_2 != 0) (R (Ending.returned (Value.int IntKind.i64 x_2)) w')
 (∃ (x : Int),
 w'.cell? (Addr.mk n_1 (0 + 2) none) = some (Value.int IntKind.i64 x) ∧
 ∃ (x_3 : Int),
 gimp (!decide (x < 0)) (w'.cell? (Addr.mk n_1 (0 + 2) none) = some (Value.int IntKind.i64 x_3)) ∧
 ∃ (x_4 : Int),
 gimp (!(decide (x < 0) || decide (x_3 > 65536)))
 (w'.cell? (Addr.mk n_1 (0 + 3) none) = some (Value.int IntKind.i64 x_4)) ∧
 ∃ (x_5 : Int),
 gimp (!(decide (x < 0) || decide (x_3 > 65536) || decide (x_4 < 0)))
 (w'.cell? (Addr.mk n_1 (0 + 3) none) = some (Value.int IntKind.i64 x_5)) ∧
 bsp (decide (x < 0) || decide (x_3 > 65536) || decide (x_4 < 0) || decide (x_5 > 20160))
 (R (Ending.returned (Value.int IntKind.i64 2)) w')
 (∃ (p : Option Addr),
 ∃ (n : Nat),
 ∃ (c : Nat),
 w'.cell? (Addr.mk n_1 (0 + 4) none) = some (Value.slice p n c) ∧
 bsp (decide ((↑n : Int) > 8)) (R (Ending.returned (Value.int IntKind.i64 9)) w')
 (∃ (I : List Value → World → Prop),
 ∃ (m : List Value → World → Nat),
 I [Value.int IntKind.i64 0] w' ∧
 ∀ (x : Int) (w' : World),
 I [Value.int IntKind.i64 x] w' →
 ∃ (p : Option Addr),
 ∃ (n : Nat),
 ∃ (c : Nat),
 w'.cell? (Addr.mk n_1 (0 + 4) none) = some (Value.slice p n c) ∧
 bsp (decide (x < (↑n : Int)))
 (∃ (p : Option Addr),
 ∃ (n : Nat),
 ∃ (c : Nat),
 w'.cell? (Addr.mk n_1 (0 + 4) none) = some (Value.slice p n c) ∧
 nn true p fun (b o : Nat) =>
 (0 ≤ x ∧ x < (↑n : Int)) ∧
 ∃ (x_6 : ByteArray),
 w'.cell? (Addr.mk b (o + x.toNat) none) = some (Value.string x_6) ∧
 CallsS Tryd.prog 34 #[Value.string x_6] w'
 fun (e : Ending) (w'_1 : World) =>
 ∃ (x_7 : Bool),
 e = Ending.returned (Value.bool x_7) ∧
 bsp (!x_7) (R (Ending.returned (Value.int IntKind.i64 12)) w'_1)
 (∃ (p : Option Addr),
 ∃ (n : Nat),
 ∃ (c : Nat),
 w'_1.drew.cell? (Addr.mk n_1 (0 + 4) none) =
 some (Value.slice p n c) ∧
 (0 ≤ x ∧ x ≤ (↑c : Int)) ∧
 ∃ (p_1 : Option Addr),
 ∃ (n : Nat),
 ∃ (c_1 : Nat),
 w'_1.drew.cell? (Addr.mk n_1 (0 + 4) none) =
 some (Value.slice p_1 n c_1) ∧
 nn true p_1 fun (b o : Nat) =>
 (0 ≤ x ∧ x < (↑n : Int)) ∧
 ∃ (x_8 : ByteArray),
 w'_1.drew.cell? (Addr.mk b (o + x.toNat) none) =
 some (Value.string x_8) ∧
 CallsS Tryd.prog 35
 #[Value.slice p x.toNat c, Value.string x_8]
 w'_1.drew fun (e : Ending) (w'_2 : World) =>
 ∃ (x_9 : Bool),
 e = Ending.returned (Value.bool x_9) ∧
 bsp x_9
 (R (Ending.returned (Value.int IntKind.i64 7))
 w'_2)
 (I
 [Value.int IntKind.i64
 (IntKind.i64.wrap (x + 1))]
 w'_2 ∧
 m
 [Value.int IntKind.i64
 (IntKind.i64.wrap (x + 1))]
 w'_2 <
 m [Value.int IntKind.i64 x] w')))
 (R (Ending.returned (Value.int IntKind.i64 0)) w')))))
theorem vc_rcheck (nb : ByteArray) (ps : ByteArray) (mb : Int) (dl : Int) (p : Option Addr) (n : Nat) (c : Nat) (w : World) (R : Ending → World → Prop) (h : VC_rcheck nb ps mb dl p n c w R) : Calls Tryd.prog 13 ([Value.agg
    #[Value.string nb, Value.string ps, Value.int IntKind.i64 mb, Value.int IntKind.i64 dl,
      Value.slice p n c]] : List Value).toArray w R := by
  have e : execR { P := Tryd.prog, loops := [(12, [(8, Ck.int IntKind.i64)])], pur := pur1, tails := [(16, 9)], joins := [], boxes := [] } Tryd.f13.results.toList R (Tryd.f13.body.getD .skip) (initF [Value.agg
    #[Value.string nb, Value.string ps, Value.int IntKind.i64 mb, Value.int IntKind.i64 dl,
      Value.slice p n
        c]] (Tryd.f13.ntmps - ([Value.agg
    #[Value.string nb, Value.string ps, Value.int IntKind.i64 mb, Value.int IntKind.i64 dl,
      Value.slice p n c]] : List Value).length)) w = VC_rcheck nb ps mb dl p n c w R := by kernel_rfl
  have hb : Tryd.f13.body = some (Tryd.f13.body.getD .skip) := by kernel_rfl
  exact calls_of_exec' (P := Tryd.prog) (fn := Tryd.f13) (c := Tryd.f13.body.getD .skip) (args := [Value.agg
    #[Value.string nb, Value.string ps, Value.int IntKind.i64 mb, Value.int IntKind.i64 dl,
      Value.slice p n c]]) (w := w) (R := R) pur1_ok Tryd.func13 hb e h

def VC_rreason (nb : ByteArray) (ps : ByteArray) (mb : Int) (dl : Int) (p : Option Addr) (n : Nat) (c : Nat) (a : Array Value) (w : World) (R : Ending → World → Prop) : Prop :=
 ∀ (n_1 : Nat) (w1 : World),
 NewB w
 (Obj.cells #[Value.string nb, Value.string ps, Value.int IntKind.i64 mb, Value.int IntKind.i64 dl, Value.slice p n c]
 24)
 n_1 w1 →
 ∀ (n : Nat) (w1_1 : World),
 NewB w1 (Obj.cells a 27) n w1_1 →
 ∃ (x : ByteArray),
 w1_1.cell? (Addr.mk n (0 + 36) none) = some (Value.string x) ∧
 ∃ (x_1 : ByteArray),
 w1_1.cell? (Addr.mk n_1 0 none) = some (Value.string x_1) ∧
 bsp (x.toList == x_1.toList) (R (Ending.returned (Value.int IntKind.i64 1)) w1_1)
 (∃ (x : Bool),
 w1_1.cell? (Addr.mk n (0 + 35) none) = some (Value.bool x) ∧
 bsp x (R (Ending.returned (Value.int IntKind.i64 0)) w1_1)
 (∃ (x : ByteArray),
 w1_1.cell? (Addr.mk n_1 (0 + 1) none) = some (Value.string x) ∧
 CallsS Tryd.prog 33 #[Value.string x] w1_1 fun (e : Ending) (w' : World) =>
 ∃ (p : Option Addr),
 ∃ (n_2 : Nat),
 ∃ (c : Nat),
 ∃ (x : Int),
 ∃ (x_2 : Int),
 e =
 Ending.returned
 (Value.tuple #[Value.slice p n_2 c, Value.int IntKind.i64 x, Value.int IntKind.i64 x_2]) ∧
 ∃ (p_1 : Option Addr),
 ∃ (n_3 : Nat),
 ∃ (c_1 : Nat),
 w'.cell? (Addr.mk n (0 + 32) none) = some (Value.slice p_1 n_3 c_1) ∧
 CallsS Tryd.prog 36 #[Value.slice p n_2 c, Value.slice p_1 n_3 c_1] w'
 fun (e : Ending) (w' : World) =>
 ∃ (x : Bool),
 e = Ending.returned (Value.bool x) ∧
 bsp (!x) (R (Ending.returned (Value.int IntKind.i64 2)) w')
 (∃ (x : Int),
 w'.cell? (Addr.mk n_1 (0 + 2) none) = some (Value.int IntKind.i64 x) ∧
 ∃ (x_3 : Int),
 gimp (x != 0) (w'.cell? (Addr.mk n_1 (0 + 2) none) = some (Value.int IntKind.i64 x_3)) ∧
 ∃ (x_4 : Int),
 gimp (x != 0)
 (w'.cell? (Addr.mk n (0 + 34) none) = some (Value.int IntKind.i64 x_4)) ∧
 bsp (x != 0 && decide (x_3 < x_4)) (R (Ending.returned (Value.int IntKind.i64 3)) w')
 (∃ (p : Option Addr),
 ∃ (n_4 : Nat),
 ∃ (c : Nat),
 w'.cell? (Addr.mk n_1 (0 + 4) none) = some (Value.slice p n_4 c) ∧
 ∃ (x : ByteArray),
 gimp (decide ((↑n_4 : Int) > 0))
 (w'.cell? (Addr.mk n (0 + 33) none) = some (Value.string x)) ∧
 ∃ (p : Option Addr),
 ∃ (n_5 : Nat),
 ∃ (c : Nat),
 gimp (decide ((↑n_4 : Int) > 0) && !x.toList == [])
 (w'.cell? (Addr.mk n_1 (0 + 4) none) = some (Value.slice p n_5 c)) ∧
 ∃ (x_5 : ByteArray),
 gimp (decide ((↑n_4 : Int) > 0) && !x.toList == [])
 (w'.cell? (Addr.mk n (0 + 33) none) = some (Value.string x_5)) ∧
 bsp (decide ((↑n_4 : Int) > 0) && !x.toList == [])
 (CallsS Tryd.prog 35 #[Value.slice p n_5 c, Value.string x_5] w'
 fun (e : Ending) (w' : World) =>
 ∃ (x : Bool),
 e = Ending.returned (Value.bool x) ∧
 bsp (true && !x) (R (Ending.returned (Value.int IntKind.i64 4)) w')
 (R (Ending.returned (Value.int IntKind.i64 0)) w'))
 (R (Ending.returned (Value.int IntKind.i64 0)) w')))))
theorem vc_rreason (nb : ByteArray) (ps : ByteArray) (mb : Int) (dl : Int) (p : Option Addr) (n : Nat) (c : Nat) (a : Array Value) (w : World) (R : Ending → World → Prop) (h : VC_rreason nb ps mb dl p n c a w R) : Calls Tryd.prog 15 ([Value.agg
    #[Value.string nb, Value.string ps, Value.int IntKind.i64 mb, Value.int IntKind.i64 dl, Value.slice p n c],
  Value.agg a] : List Value).toArray w R := by
  have e : execR { P := Tryd.prog, loops := [], pur := pur1, tails := [], joins := [], boxes := [] } Tryd.f15.results.toList R (Tryd.f15.body.getD .skip) (initF [Value.agg
    #[Value.string nb, Value.string ps, Value.int IntKind.i64 mb, Value.int IntKind.i64 dl, Value.slice p n c],
  Value.agg
    a] (Tryd.f15.ntmps - ([Value.agg
    #[Value.string nb, Value.string ps, Value.int IntKind.i64 mb, Value.int IntKind.i64 dl, Value.slice p n c],
  Value.agg a] : List Value).length)) w = VC_rreason nb ps mb dl p n c a w R := by kernel_rfl
  have hb : Tryd.f15.body = some (Tryd.f15.body.getD .skip) := by kernel_rfl
  exact calls_of_exec' (P := Tryd.prog) (fn := Tryd.f15) (c := Tryd.f15.body.getD .skip) (args := [Value.agg
    #[Value.string nb, Value.string ps, Value.int IntKind.i64 mb, Value.int IntKind.i64 dl, Value.slice p n c],
  Value.agg a]) (w := w) (R := R) pur1_ok Tryd.func15 hb e h

def VC_rdue (nb : ByteArray) (ps : ByteArray) (mb : Int) (dl : Int) (p : Option Addr) (n : Nat) (c : Nat) (a : Array Value) (w : World) (R : Ending → World → Prop) : Prop :=
 ∀ (n_1 : Nat) (w1 : World),
 NewB w
 (Obj.cells #[Value.string nb, Value.string ps, Value.int IntKind.i64 mb, Value.int IntKind.i64 dl, Value.slice p n c]
 24)
 n_1 w1 →
 ∀ (n : Nat) (w1_1 : World),
 NewB w1 (Obj.cells a 27) n w1_1 →
 ∃ (x : Int),
 w1_1.cell? (Addr.mk n (0 + 37) none) = some (Value.int IntKind.i64 x) ∧
 ∃ (x_1 : Int),
 w1_1.cell? (Addr.mk n_1 (0 + 3) none) = some (Value.int IntKind.i64 x_1) ∧
 bsp (decide (x > IntKind.i64.wrap (9223372036854775807 - x_1)))
 (R (Ending.returned (Value.int IntKind.i64 9223372036854775807)) w1_1)
 (∃ (x : Int),
 w1_1.cell? (Addr.mk n (0 + 37) none) = some (Value.int IntKind.i64 x) ∧
 ∃ (x_2 : Int),
 w1_1.cell? (Addr.mk n_1 (0 + 3) none) = some (Value.int IntKind.i64 x_2) ∧
 R (Ending.returned (Value.int IntKind.i64 (IntKind.i64.wrap (x + x_2)))) w1_1)
theorem vc_rdue (nb : ByteArray) (ps : ByteArray) (mb : Int) (dl : Int) (p : Option Addr) (n : Nat) (c : Nat) (a : Array Value) (w : World) (R : Ending → World → Prop) (h : VC_rdue nb ps mb dl p n c a w R) : Calls Tryd.prog 18 ([Value.agg
    #[Value.string nb, Value.string ps, Value.int IntKind.i64 mb, Value.int IntKind.i64 dl, Value.slice p n c],
  Value.agg a] : List Value).toArray w R := by
  have e : execR { P := Tryd.prog, loops := [], pur := pur1, tails := [], joins := [], boxes := [] } Tryd.f18.results.toList R (Tryd.f18.body.getD .skip) (initF [Value.agg
    #[Value.string nb, Value.string ps, Value.int IntKind.i64 mb, Value.int IntKind.i64 dl, Value.slice p n c],
  Value.agg
    a] (Tryd.f18.ntmps - ([Value.agg
    #[Value.string nb, Value.string ps, Value.int IntKind.i64 mb, Value.int IntKind.i64 dl, Value.slice p n c],
  Value.agg a] : List Value).length)) w = VC_rdue nb ps mb dl p n c a w R := by kernel_rfl
  have hb : Tryd.f18.body = some (Tryd.f18.body.getD .skip) := by kernel_rfl
  exact calls_of_exec' (P := Tryd.prog) (fn := Tryd.f18) (c := Tryd.f18.body.getD .skip) (args := [Value.agg
    #[Value.string nb, Value.string ps, Value.int IntKind.i64 mb, Value.int IntKind.i64 dl, Value.slice p n c],
  Value.agg a]) (w := w) (R := R) pur1_ok Tryd.func18 hb e h

def VC_rselects (p : Option Addr) (n : Nat) (c : Nat) (q : Option Addr) (m : Nat) (d : Nat) (w : World) (R : Ending → World → Prop) : Prop :=
 ∃ (I : List Value → World → Prop),
 ∃ (m_1 : List Value → World → Nat),
 I [Value.int IntKind.i64 0, Value.bool false] w ∧
 ∀ (x : Int) (x_1 : Bool) (w' : World),
 I [Value.int IntKind.i64 x, Value.bool x_1] w' →
 bsp (decide (x < (↑m : Int)))
 (nn true q fun (b o : Nat) =>
 (0 ≤ x ∧ x < (↑m : Int)) ∧
 ∃ (x_2 : ByteArray),
 w'.cell? (Addr.mk b (o + x.toNat) none) = some (Value.string x_2) ∧
 CallsS Tryd.prog 57 #[Value.slice p n c, Value.string x_2] w' fun (e : Ending) (w'_1 : World) =>
 ∃ (x_3 : Int),
 e = Ending.returned (Value.int IntKind.i64 x_3) ∧
 bsp (x_3 == 3) (R (Ending.returned (Value.bool false)) w'_1)
 (I [Value.int IntKind.i64 (IntKind.i64.wrap (x + 1)), Value.bool (x_1 || x_3 == 1)] w'_1 ∧
 m_1 [Value.int IntKind.i64 (IntKind.i64.wrap (x + 1)), Value.bool (x_1 || x_3 == 1)] w'_1 <
 m_1 [Value.int IntKind.i64 x, Value.bool x_1] w'))
 (R (Ending.returned (Value.bool x_1)) w')
theorem vc_rselects (p : Option Addr) (n : Nat) (c : Nat) (q : Option Addr) (m : Nat) (d : Nat) (w : World) (R : Ending → World → Prop) (h : VC_rselects p n c q m d w R) : Calls Tryd.prog 36 ([Value.slice
    p n c,
  Value.slice q m d] : List Value).toArray w R := by
  have e : execR { P := Tryd.prog, loops := [(3, [(6, Ck.int IntKind.i64), (5, Ck.bool)])], pur := pur1, tails := [], joins := [], boxes := [] } Tryd.f36.results.toList R (Tryd.f36.body.getD .skip) (initF [Value.slice
    p n c,
  Value.slice q m
    d] (Tryd.f36.ntmps - ([Value.slice p n c,
  Value.slice q m d] : List Value).length)) w = VC_rselects p n c q m d w R := by kernel_rfl
  have hb : Tryd.f36.body = some (Tryd.f36.body.getD .skip) := by kernel_rfl
  exact calls_of_exec' (P := Tryd.prog) (fn := Tryd.f36) (c := Tryd.f36.body.getD .skip) (args := [Value.slice p n c,
  Value.slice q m d]) (w := w) (R := R) pur1_ok Tryd.func36 hb e h

def VC_rverdict (p : Option Addr) (n : Nat) (c : Nat) (s : ByteArray) (w : World) (R : Ending → World → Prop) : Prop :=
 ∃ (I : List Value → World → Prop),
 ∃ (m : List Value → World → Nat),
 I [Value.int IntKind.i64 0, Value.int IntKind.i64 0] w ∧
 ∀ (x x_1 : Int) (w' : World),
 I [Value.int IntKind.i64 x, Value.int IntKind.i64 x_1] w' →
 bsp (decide (x < (↑n : Int)))
 (nn true p fun (b o : Nat) =>
 (0 ≤ x ∧ x < (↑n : Int)) ∧
 ∃ (x_2 : ByteArray),
 ∃ (p_1 : Option Addr),
 ∃ (n_1 : Nat),
 ∃ (c : Nat),
 AtL w' b (o + x.toNat * 3 + 1) [Value.string x_2, Value.slice p_1 n_1 c] ∧
 CallsS Tryd.prog 73 #[Value.agg #[Value.string x_2, Value.slice p_1 n_1 c], Value.string s] w'
 fun (e : Ending) (w'_1 : World) =>
 ∃ (x_3 : Bool),
 e = Ending.returned (Value.bool x_3) ∧
 bsp x_3
 (nn true p fun (b o : Nat) =>
 (0 ≤ x ∧ x < (↑n : Int)) ∧
 ∃ (x_4 : Int),
 w'_1.cell? (Addr.mk b (o + x.toNat * 3) none) = some (Value.int IntKind.i64 x_4) ∧
 I [Value.int IntKind.i64 (IntKind.i64.wrap (x + 1)), Value.int IntKind.i64 x_4] w'_1 ∧
 m [Value.int IntKind.i64 (IntKind.i64.wrap (x + 1)), Value.int IntKind.i64 x_4] w'_1 <
 m [Value.int IntKind.i64 x, Value.int IntKind.i64 x_1] w')
 (I [Value.int IntKind.i64 (IntKind.i64.wrap (x + 1)), Value.int IntKind.i64 x_1] w'_1 ∧
 m [Value.int IntKind.i64 (IntKind.i64.wrap (x + 1)), Value.int IntKind.i64 x_1] w'_1 <
 m [Value.int IntKind.i64 x, Value.int IntKind.i64 x_1] w'))
 (R (Ending.returned (Value.int IntKind.i64 x_1)) w')
theorem vc_rverdict (p : Option Addr) (n : Nat) (c : Nat) (s : ByteArray) (w : World) (R : Ending → World → Prop) (h : VC_rverdict p n c s w R) : Calls Tryd.prog 57 ([Value.slice
    p n c,
  Value.string s] : List Value).toArray w R := by
  have e : execR { P := Tryd.prog, loops := [(3, [(6, Ck.int IntKind.i64), (5, Ck.int IntKind.i64)])], pur := pur1, tails := [], joins := [], boxes := [] } Tryd.f57.results.toList R (Tryd.f57.body.getD .skip) (initF [Value.slice
    p n c,
  Value.string
    s] (Tryd.f57.ntmps - ([Value.slice p n c,
  Value.string s] : List Value).length)) w = VC_rverdict p n c s w R := by kernel_rfl
  have hb : Tryd.f57.body = some (Tryd.f57.body.getD .skip) := by kernel_rfl
  exact calls_of_exec' (P := Tryd.prog) (fn := Tryd.f57) (c := Tryd.f57.body.getD .skip) (args := [Value.slice p n c,
  Value.string s]) (w := w) (R := R) pur1_ok Tryd.func57 hb e h

def VC_rmatch (t : ByteArray) (p : Option Addr) (n : Nat) (c : Nat) (s : ByteArray) (w : World) (R : Ending → World → Prop) : Prop :=
 ∀ (n_1 : Nat) (w1 : World),
 NewB w (Obj.cells #[Value.string t, Value.slice p n c] 120) n_1 w1 →
 ∃ (I : List Value → World → Prop),
 ∃ (m : List Value → World → Nat),
 I [Value.int IntKind.i64 0] w1 ∧
 ∀ (x : Int) (w' : World),
 I [Value.int IntKind.i64 x] w' →
 bsp (decide (x < (↑s.size : Int)))
 ((0 ≤ x ∧ x < (↑s.size : Int)) ∧
 bsp (!charB (at8 s x.toNat)) (R (Ending.returned (Value.bool false)) w')
 (I [Value.int IntKind.i64 (IntKind.i64.wrap (x + 1))] w' ∧
 m [Value.int IntKind.i64 (IntKind.i64.wrap (x + 1))] w' < m [Value.int IntKind.i64 x] w'))
 ((0 ≤ IntKind.i64.wrap ((↑s.size : Int) + 1) ∧
 IntKind.i64.wrap ((↑s.size : Int) + 1) ≤ IntKind.i64.wrap ((↑s.size : Int) + 1) ∧
 (↑1 : Int) * IntKind.i64.wrap ((↑s.size : Int) + 1) ≤ 281474976710656 ∧
 IntKind.i64.wrap ((↑s.size : Int) + 1) ≤ 9223372036854775807) ∧
 ∀ (n : Nat) (w1 : World),
 NewB w' (Obj.cells (madeCells #[Value.bool false] ((IntKind.i64.wrap ((↑s.size : Int) + 1)).toNat * 1)) 4) n
 w1 →
 ((0 : Int) ≤ 0 ∧ 0 < (↑(IntKind.i64.wrap ((↑s.size : Int) + 1)).toNat : Int)) ∧
 ((∃ (u : Value), w1.cell? (Addr.mk n 0 none) = some u) ∧ w1.frozen? (Addr.mk n 0 none) = false) ∧
 ∀ (w1_1 : World),
 PutB w1 n 0 [Value.bool true] w1_1 →
 ∃ (I : List Value → World → Prop),
 ∃ (m : List Value → World → Nat),
 I
 [Value.slice (some (Addr.mk n 0 none)) (IntKind.i64.wrap ((↑s.size : Int) + 1)).toNat
 (IntKind.i64.wrap ((↑s.size : Int) + 1)).toNat,
 Value.int IntKind.i64 0]
 w1_1 ∧
 ∀ (p : Option Addr) (n c : Nat) (x : Int) (w' : World),
 I [Value.slice p n c, Value.int IntKind.i64 x] w' →
 ∃ (p_1 : Option Addr),
 ∃ (n_2 : Nat),
 ∃ (c_1 : Nat),
 w'.cell? (Addr.mk n_1 (0 + 1) none) = some (Value.slice p_1 n_2 c_1) ∧
 bsp (decide (x < (↑n_2 : Int)))
 ((0 ≤ IntKind.i64.wrap ((↑s.size : Int) + 1) ∧
 IntKind.i64.wrap ((↑s.size : Int) + 1) ≤ IntKind.i64.wrap ((↑s.size : Int) + 1) ∧
 (↑1 : Int) * IntKind.i64.wrap ((↑s.size : Int) + 1) ≤ 281474976710656 ∧
 IntKind.i64.wrap ((↑s.size : Int) + 1) ≤ 9223372036854775807) ∧
 ∀ (n_3 : Nat) (w1 : World),
 NewB w'
 (Obj.cells
 (madeCells #[Value.bool false] ((IntKind.i64.wrap ((↑s.size : Int) + 1)).toNat * 1)) 4)
 n_3 w1 →
 ∃ (I_1 : List Value → World → Prop),
 ∃ (m_1 : List Value → World → Nat),
 I_1 [Value.int IntKind.i64 0] w1 ∧
 ∀ (x_1 : Int) (w'_1 : World),
 I_1 [Value.int IntKind.i64 x_1] w'_1 →
 bsp (decide (x_1 ≤ (↑s.size : Int)))
 (∃ (p_2 : Option Addr),
 ∃ (n_4 : Nat),
 ∃ (c : Nat),
 w'_1.cell? (Addr.mk n_1 (0 + 1) none) = some (Value.slice p_2 n_4 c) ∧
 nn true p_2 fun (b o : Nat) =>
 (0 ≤ x ∧ x < (↑n_4 : Int)) ∧
 ∃ (x_2 : Bool),
 w'_1.cell? (Addr.mk b (o + x.toNat * 129) none) = some (Value.bool x_2) ∧
 bsp x_2
 (nn true p fun (b o : Nat) =>
 (0 ≤ x_1 ∧ x_1 < (↑n : Int)) ∧
 ∃ (x : Bool),
 w'_1.cell? (Addr.mk b (o + x_1.toNat) none) = some (Value.bool x) ∧
 gimp (!x && decide (x_1 > 0))
 (0 ≤ IntKind.i64.wrap (x_1 - 1) ∧
 IntKind.i64.wrap (x_1 - 1) <
 (↑(IntKind.i64.wrap ((↑s.size : Int) + 1)).toNat : Int)) ∧
 ∃ (x_3 : Bool),
 gimp (!x && decide (x_1 > 0))
 (w'_1.cell?
 (Addr.mk n_3 (0 + (IntKind.i64.wrap (x_1 - 1)).toNat) none) =
 some (Value.bool x_3)) ∧
 (0 ≤ x_1 ∧
 x_1 < (↑(IntKind.i64.wrap ((↑s.size : Int) + 1)).toNat : Int)) ∧
 ((∃ (u : Value),
 w'_1.cell? (Addr.mk n_3 (0 + x_1.toNat) none) = some u) ∧
 w'_1.frozen? (Addr.mk n_3 (0 + x_1.toNat) none) = false) ∧
 ∀ (w1 : World),
 PutB w'_1 n_3 (0 + x_1.toNat)
 [Value.bool (x || decide (x_1 > 0) && x_3)] w1 →
 I_1 [Value.int IntKind.i64 (IntKind.i64.wrap (x_1 + 1))] w1 ∧
 m_1 [Value.int IntKind.i64 (IntKind.i64.wrap (x_1 + 1))] w1 <
 m_1 [Value.int IntKind.i64 x_1] w'_1)
 (bsp (decide (x_1 > 0))
 (nn true p fun (b o : Nat) =>
 (0 ≤ IntKind.i64.wrap (x_1 - 1) ∧
 IntKind.i64.wrap (x_1 - 1) < (↑n : Int)) ∧
 ∃ (x_3 : Bool),
 w'_1.drew.cell?
 (Addr.mk b (o + (IntKind.i64.wrap (x_1 - 1)).toNat) none) =
 some (Value.bool x_3) ∧
 ∃ (p : Option Addr),
 ∃ (n : Nat),
 ∃ (c : Nat),
 gimp x_3
 (w'_1.drew.cell? (Addr.mk n_1 (0 + 1) none) =
 some (Value.slice p n c)) ∧
 gimp x_3
 (0 ≤ IntKind.i64.wrap (x_1 - 1) ∧
 IntKind.i64.wrap (x_1 - 1) < (↑s.size : Int)) ∧
 nn x_3 p fun (b o : Nat) =>
 gimp x_3 (0 ≤ x ∧ x < (↑n : Int)) ∧
 gimp x_3
 (0 ≤ at8 s (IntKind.i64.wrap (x_1 - 1)).toNat ∧
 at8 s (IntKind.i64.wrap (x_1 - 1)).toNat < (↑128 : Int)) ∧
 ∃ (x_4 : Bool),
 gimp x_3
 (w'_1.drew.cell?
 (Addr.mk b
 (o + x.toNat * 129 + 1 +
 (at8 s (IntKind.i64.wrap (x_1 - 1)).toNat).toNat)
 none) =
 some (Value.bool x_4)) ∧
 (0 ≤ x_1 ∧
 x_1 <
 (↑(IntKind.i64.wrap ((↑s.size : Int) + 1)).toNat : Int)) ∧
 ((∃ (u : Value),
 w'_1.drew.cell? (Addr.mk n_3 (0 + x_1.toNat) none) =
 some u) ∧
 w'_1.drew.frozen? (Addr.mk n_3 (0 + x_1.toNat) none) =
 false) ∧
 ∀ (w1 : World),
 PutB w'_1.drew n_3 (0 + x_1.toNat)
 [Value.bool (x_3 && x_4)] w1 →
 I_1 [Value.int IntKind.i64 (IntKind.i64.wrap (x_1 + 1))]
 w1 ∧
 m_1 [Value.int IntKind.i64 (IntKind.i64.wrap (x_1 + 1))]
 w1 <
 m_1 [Value.int IntKind.i64 x_1] w'_1)
 (I_1 [Value.int IntKind.i64 (IntKind.i64.wrap (x_1 + 1))] w'_1 ∧
 m_1 [Value.int IntKind.i64 (IntKind.i64.wrap (x_1 + 1))] w'_1 <
 m_1 [Value.int IntKind.i64 x_1] w'_1)))
 (I
 [Value.slice (some (Addr.mk n_3 0 none))
 (IntKind.i64.wrap ((↑s.size : Int) + 1)).toNat
 (IntKind.i64.wrap ((↑s.size : Int) + 1)).toNat,
 Value.int IntKind.i64 (IntKind.i64.wrap (x + 1))]
 w'_1 ∧
 m
 [Value.slice (some (Addr.mk n_3 0 none))
 (IntKind.i64.wrap ((↑s.size : Int) + 1)).toNat
 (IntKind.i64.wrap ((↑s.size : Int) + 1)).toNat,
 Value.int IntKind.i64 (IntKind.i64.wrap (x + 1))]
 w'_1 <
 m [Value.slice p n c, Value.int IntKind.i64 x] w'))
 (nn true p fun (b o : Nat) =>
 (0 ≤ (↑s.size : Int) ∧ (↑s.size : Int) < (↑n : Int)) ∧
 ∃ (x : Bool),
 w'.cell? (Addr.mk b (o + (↑s.size : Int).toNat) none) = some (Value.bool x) ∧
 R (Ending.returned (Value.bool x)) w'))
theorem vc_rmatch (t : ByteArray) (p : Option Addr) (n : Nat) (c : Nat) (s : ByteArray) (w : World) (R : Ending → World → Prop) (h : VC_rmatch t p n c s w R) : Calls Tryd.prog 73 ([Value.agg
    #[Value.string t, Value.slice p n c],
  Value.string s] : List Value).toArray w R := by
  have e : execR { P := Tryd.prog, loops := [(2, [(5, Ck.int IntKind.i64)]), (9, [(6, Ck.slice), (7, Ck.int IntKind.i64)]), (13, [(9, Ck.int IntKind.i64)])], pur := pur1, tails := [(18, 21)], joins := [], boxes := [] } Tryd.f73.results.toList R (Tryd.f73.body.getD .skip) (initF [Value.agg
    #[Value.string t, Value.slice p n c],
  Value.string
    s] (Tryd.f73.ntmps - ([Value.agg #[Value.string t, Value.slice p n c],
  Value.string s] : List Value).length)) w = VC_rmatch t p n c s w R := by kernel_rfl
  have hb : Tryd.f73.body = some (Tryd.f73.body.getD .skip) := by kernel_rfl
  exact calls_of_exec' (P := Tryd.prog) (fn := Tryd.f73) (c := Tryd.f73.body.getD .skip) (args := [Value.agg
    #[Value.string t, Value.slice p n c],
  Value.string s]) (w := w) (R := R) pur1_ok Tryd.func73 hb e h

end Go.Proofs.YtcpjajjocmpkjaaDoor

/- The contracts of the reference's Match, Verdict and Selects. Names have at most 2^47 bytes. -/
namespace Go.Proofs.YtcpjajjocmpkjaaDoor
open Go.RowKit

/-- A cell of a row. -/
theorem own_cellL {w : World} {base : Nat} {e : TypeId} {L n c : Nat} {p : Option Addr} {xs : List Value} (h : w.ownsRow base e L (.slice p n c) n xs) {i : Nat} {v : Value} (hv : xs[i]? = some v) : ∃ g, p = some ⟨g, 0, none⟩ ∧ w.cell? ⟨g, i, none⟩ = some v := by
  have hl := h.1
  have hi : i < xs.length := (List.getElem?_eq_some_iff.1 hv).1
  rcases h.2 with ⟨_, hn⟩ | ⟨g, cap, cur, he, _, hg, _, _, _, ht⟩
  · rw [hn, Nat.zero_mul] at hl; omega
  · simp only [Value.slice.injEq] at he
    refine ⟨g, he.1, ?_⟩
    rw [cell_block hg]
    rw [← ht, List.getElem?_take] at hv
    split at hv
    · rw [Array.getElem?_toList] at hv; exact hv
    · cases hv
theorem flat_get {α : Type} (f : α → List Value) (L : Nat) : ∀ (l : List α) (k : Nat) (x : α) (j : Nat), (∀ y ∈ l, (f y).length = L) → l[k]? = some x → j < L → (l.flatMap f)[k * L + j]? = (f x)[j]?
  | [], k, x, j, _, h, _ => by simp at h
  | y :: l, 0, x, j, hl, h, hj => by
    simp at h
    subst h
    rw [List.flatMap_cons, Nat.zero_mul, Nat.zero_add, List.getElem?_append_left (by rw [hl y (by simp)]; exact hj)]
  | y :: l, k + 1, x, j, hl, h, hj => by
    have hy := hl y (by simp)
    rw [List.flatMap_cons, List.getElem?_append_right (by rw [hy, Nat.succ_mul]; omega), hy]
    rw [show (k + 1) * L + j - L = k * L + j by rw [Nat.succ_mul]; omega]
    exact flat_get f L l k x j (fun z hz => hl z (by simp [hz])) (by simpa using h) hj
theorem rows_star {rs : List RE} {k : Nat} {r : RE} (h : rs[k]? = some r) : (rows rs)[k * 129]? = some (.bool r.star) := by
  have := flat_get (fun r : RE => reL r.star r.set) 129 rs k r 0 (fun y _ => reL_length _ _) h (by decide)
  exact this
theorem rows_set {rs : List RE} {k : Nat} {r : RE} (h : rs[k]? = some r) {c : Nat} (hc : c < 128) : (rows rs)[k * 129 + 1 + c]? = some (.bool (r.set c)) := by
  have := flat_get (fun r : RE => reL r.star r.set) 129 rs k r (1 + c) (fun y _ => reL_length _ _) h (by omega)
  rw [← Nat.add_assoc] at this
  unfold rows
  rw [this]
  show (Value.bool r.star :: arrBo r.set 128 0)[1 + c]? = _
  rw [Nat.add_comm 1 c, List.getElem?_cons_succ, arrBo_get _ _ _ _ hc, Nat.zero_add]

set_option maxHeartbeats 1000000 in
theorem rmatch_any (t : ByteArray) (p : Option Addr) (c : Nat) (rs : List RE) (s : ByteArray) (w : World) {base : Nat} (ho : w.ownsRow base 150 129 (.slice p rs.length c) rs.length (rows rs)) (hs : s.size ≤ 140737488355328) (hl : rs.length ≤ 1048576) :
    Calls Tryd.prog 73 #[.agg #[.string t, .slice p rs.length c], .string s] w fun e w' => e = .returned (.bool (rmatchB rs s)) ∧ K0 w w' := by
  refine vc_rmatch t p rs.length c s w _ ?_
  have eW : IntKind.i64.wrap ((s.size : Int) + 1) = ((s.size + 1 : Nat) : Int) := by rw [wr64 (by omega) (by omega)]; omega
  unfold VC_rmatch
  simp only [eW, Int.toNat_natCast]
  intro n1 w1 hn
  have k1 : K0 w w1 := hn.kp _
  refine count1 s.size (by omega) (fun k w' => (∀ j, j < k → charB (at8 s j) = true) ∧ w' = w1) ⟨fun j hj => by omega, rfl⟩ ?_
  rintro I m k w' hk ⟨hch, rfl⟩ next
  refine bsp_intro (fun hlt => ?_) (fun hge => ?_)
  · have hlt : k < s.size := by simpa using hlt
    rw [Int.toNat_natCast]
    refine ⟨by omega, bsp_intro (fun hc => ?_) (fun hc => next hlt w' ⟨fun j hj => ?_, rfl⟩)⟩
    · refine ⟨?_, k1⟩
      have : (List.range s.size).all (fun i => charB (at8 s i)) = false := by
        rw [List.all_eq_false]
        exact ⟨k, List.mem_range.2 hlt, by simpa using hc⟩
      unfold rmatchB
      rw [this]; rfl
    · by_cases e : j = k
      · subst e; simpa using hc
      · exact hch j (by omega)
  have hge : k = s.size := by simp at hge; omega
  subst hge
  have hall : (List.range s.size).all (fun i => charB (at8 s i)) = true := by
    rw [List.all_eq_true]
    exact fun j hj => hch j (List.mem_range.1 hj)
  have hR : rmatchB rs s = pmF (rS rs) (fun i k => rS rs i || rH rs i (at8 s k).toNat) rs.length s.size := by unfold rmatchB; rw [hall, Bool.true_and]
  rw [hR]
  generalize hh : (fun i k => rS rs i || rH rs i (at8 s k).toNat) = h
  generalize hst : rS rs = st
  refine ⟨by omega, fun g0 w2 hn2 => ⟨⟨by omega, by omega⟩, ?_⟩⟩
  have b2 := hn2.block
  rw [bools_made] at b2
  refine ⟨cell_wr b2 (by rw [bools_size]; omega), fun w3 hp3 => ?_⟩
  have b3 : w3.heap[g0]? = some (.cells (bools (pmF st h 0) (s.size + 1)) 4 (0, 0)) := by
    rw [hp3.block b2]
    congr 2
    apply bools_put
    intro j _
    by_cases e : j = 0
    · subst e; rfl
    · rw [if_neg e]; simp [pmF, e]
  have g0n : n1 < g0 := by have := hn.size; have := hn2.ge; omega
  have k3 : K0 w' w3 := (hn2.kp (fun _ => False)).fresh hp3.kp (fun i hi e => by have := hn2.ge; omega)
  have c1 : ∀ wx, K0 w' wx → wx.cell? ⟨n1, 0 + 1, none⟩ = some (.slice p rs.length c) := fun wx hk => cell_at (hk.blk hn.block (fun h => h)) rfl
  refine ⟨fun vs wx => ∃ (g k : Nat), vs = [.slice (some ⟨g, 0, none⟩) (s.size + 1) (s.size + 1), .int .i64 (k : Int)] ∧ k ≤ rs.length ∧ wx.heap[g]? = some (.cells (bools (pmF st h k) (s.size + 1)) 4 (0, 0)) ∧ K0 w' wx,
    fun vs _ => (match vs with | [_, .int _ x] => rs.length - x.toNat | _ => 0), ⟨g0, 0, rfl, by omega, b3, k3⟩, ?_⟩
  rintro p1 n_ c_ x w4 ⟨g, k, hv, hk, b4, k4⟩
  simp only [List.cons.injEq, Value.int.injEq, Value.slice.injEq, true_and, and_true] at hv
  obtain ⟨⟨rfl, rfl, rfl⟩, rfl⟩ := hv
  refine ⟨p, rs.length, c, c1 w4 k4, bsp_intro (fun hlt => ?_) (fun hge => ?_)⟩
  · have hlt : k < rs.length := by simpa using hlt
    obtain ⟨r, hr⟩ : ∃ r, rs[k]? = some r := ⟨_, List.getElem?_eq_getElem hlt⟩
    have hstk : st k = r.star := by rw [← hst]; simp [rS, hr]
    have hhk : ∀ i, h k i = (r.star || r.set (at8 s i).toNat) := fun i => by rw [← hh]; simp [rS, rH, hr]
    refine ⟨by omega, fun n3 w5 hn5 => ?_⟩
    have b5 := hn5.block
    rw [bools_made] at b5
    have g3 : w4.heap.size ≤ n3 := hn5.ge
    have glt : g < w4.heap.size := block_lt b4
    have b45 := (hn5.kp (fun _ => False)).blk b4 (fun h => h)
    have k5 : K0 w' w5 := k4.trans (hn5.kp _)
    refine count1 (s.size + 1) (by omega) (fun i wx => wx.heap[n3]? = some (.cells (bools (fun j => decide (j < i) && pmF st h (k + 1) j) (s.size + 1)) 4 (0, 0)) ∧ Kp (· = n3) w5 wx) ⟨?_, .refl _ _⟩ ?_
    · rw [b5]
      congr 2
      first | done | (apply bools_congr; intro j _; simp)
    rintro I1 m1 i w6 hi ⟨b6, k6⟩ next
    have b46 := k6.blk b45 (fun e => by omega)
    have k6' : K0 w' w6 := k5.fresh k6 (fun i hi e => by have := k4.size; omega)
    refine bsp_intro (fun hle => ?_) (fun hgt => ?_)
    · have hle : i < s.size + 1 := by simp at hle; omega
      have ho6 := owns_kp (owns_kp ho k1 (fun _ _ h => h)) k6' (fun _ _ h => h)
      obtain ⟨ge, rfl, hcs⟩ := own_cellL ho6 (rows_star hr)
      refine ⟨_, rs.length, c, c1 w6 k6', ?_⟩
      show (0 ≤ (k : Int) ∧ (k : Int) < (rs.length : Int)) ∧ _
      rw [Int.toNat_natCast]
      refine ⟨by omega, r.star, by rw [Nat.zero_add]; exact hcs, ?_⟩
      have fin : ∀ (wz : World) (v : Bool), Kp (· = n3) w5 wz → wz.heap[n3]? = some (.cells (bools (fun j => decide (j < i) && pmF st h (k + 1) j) (s.size + 1)) 4 (0, 0)) → v = pmF st h (k + 1) i → ∀ wy, PutB wz n3 (0 + i) [.bool v] wy → wy.heap[n3]? = some (.cells (bools (fun j => decide (j < i + 1) && pmF st h (k + 1) j) (s.size + 1)) 4 (0, 0)) ∧ Kp (· = n3) w5 wy := fun wz v hkz hbz hv wy hp => by
        refine ⟨?_, hkz.trans hp.kp⟩
        have := hp.block hbz
        rw [Nat.zero_add] at this
        rw [this]
        congr 2
        apply bools_put
        intro j _
        by_cases e : j = i
        · subst e; rw [if_pos rfl, hv]; simp
        · rw [if_neg e]
          have : decide (j < i + 1) = decide (j < i) := by rw [decide_eq_decide]; omega
          rw [this]
      have e1 : 0 < i → IntKind.i64.wrap ((i : Int) - 1) = ((i - 1 : Nat) : Int) := fun h0 => by rw [wr64 (by omega) (by omega)]; omega
      refine bsp_intro (fun hs1 => ?_) (fun hs0 => bsp_intro (fun h0 => ?_) (fun h0 => ?_))
      · show (0 ≤ (i : Int) ∧ (i : Int) < ((s.size + 1 : Nat) : Int)) ∧ _
        rw [Int.toNat_natCast]
        refine ⟨by omega, pmF st h k i, by rw [Nat.zero_add]; exact cell_at b46 (bools_get _ _ _ (by omega)), gimp_intro fun hg => ?_, ?_⟩
        · have h0 : 0 < i := by simp at hg; omega
          rw [e1 h0]; omega
        refine ⟨pmF st h (k + 1) (i - 1), gimp_intro fun hg => ?_, by omega, cell_wr b6 (by rw [bools_size]; omega), fun wy hp => next hle wy (fin w6 _ k6 b6 ?_ wy hp)⟩
        · have h0 : 0 < i := by simp at hg; omega
          rw [e1 h0, Int.toNat_natCast, Nat.zero_add]
          refine cell_at b6 ?_
          rw [bools_get _ _ _ (by omega)]
          have : decide (i - 1 < i) = true := by simp; omega
          rw [this, Bool.true_and]
        · cases i with
          | zero => rw [pmF_zero, hstk, hs1]; simp
          | succ i =>
            rw [pmF_succ, hstk, if_pos hs1, hhk, hs1]
            have : decide (((i + 1 : Nat) : Int) > 0) = true := decide_eq_true (by omega)
            rw [this]
            simp
      · have h0 : 0 < i := by simp at h0; omega
        rw [e1 h0, Int.toNat_natCast, Int.toNat_natCast]
        obtain ⟨j, rfl⟩ : ∃ j, i = j + 1 := ⟨i - 1, by omega⟩
        rw [Nat.add_sub_cancel]
        have hcb := charB_lt (hch j (by omega))
        obtain ⟨ge', hge', hcc⟩ := own_cellL ho6 (rows_set hr (c := (at8 s j).toNat) (by omega))
        simp only [Option.some.injEq, Addr.mk.injEq, and_true] at hge'
        subst hge'
        show (0 ≤ (j : Int) ∧ (j : Int) < ((s.size + 1 : Nat) : Int)) ∧ _
        refine ⟨by omega, pmF st h k j, by rw [Nat.zero_add]; exact cell_at (blk_drew b46) (bools_get _ _ _ (by omega)), some ⟨ge, 0, none⟩, rs.length, c, gimp_intro fun _ => c1 w6.drew k6'.drew, gimp_intro fun _ => by omega, ?_⟩
        show gimp _ _ ∧ _
        refine ⟨gimp_intro fun _ => by omega, gimp_intro fun _ => by omega, r.set (at8 s j).toNat, gimp_intro fun _ => by rw [Nat.zero_add]; exact hcc, by omega, cell_wr (blk_drew b6) (by rw [bools_size]; omega), fun wy hp => next hle wy (fin w6.drew _ k6.drew (blk_drew b6) ?_ wy hp)⟩
        rw [pmF_succ, hstk, if_neg (by rw [hs0]; decide), hhk, hs0, Bool.false_or, Bool.and_comm]
      · have h0 : i = 0 := by simp at h0; omega
        subst h0
        refine next hle w6 ⟨?_, k6⟩
        rw [b6]
        congr 2
        apply bools_congr
        intro j _
        by_cases e : j = 0
        · subst e
          rw [pmF_zero, hstk, hs0]; simp
        · have h1 : decide (j < 0 + 1) = false := decide_eq_false (by omega)
          have h2 : decide (j < 0) = false := decide_eq_false (by omega)
          rw [h1, h2]
    · have hgt : i = s.size + 1 := by simp at hgt; omega
      subst hgt
      have f1 : IntKind.i64.wrap ((k : Int) + 1) = ((k + 1 : Nat) : Int) := by rw [wr64 (by omega) (by omega)]; omega
      rw [f1]
      refine ⟨⟨n3, k + 1, rfl, by omega, ?_, k6'⟩, by simp only [Int.toNat_natCast]; omega⟩
      rw [b6]
      congr 2
      apply bools_congr
      intro j hj
      simp [hj]
  · have hge : k = rs.length := by simp at hge; omega
    subst hge
    show (0 ≤ (s.size : Int) ∧ (s.size : Int) < ((s.size + 1 : Nat) : Int)) ∧ _
    refine ⟨by omega, _, by rw [Nat.zero_add]; exact cell_at b4 (bools_get _ _ _ (by omega)), rfl, k1.trans k4⟩

theorem ritC_length (x : RItA) : (ritC x).length = 3 := rfl
theorem RLst.cell {base : Nat} {w : World} {p : Option Addr} {n c : Nat} {L : List RItA} (h : RLst base w p n c L) {k : Nat} {x : RItA} (hk : L[k]? = some x) {j : Nat} {v : Value} (hj : (ritC x)[j]? = some v) : ∃ g, p = some ⟨g, 0, none⟩ ∧ w.cell? ⟨g, k * 3 + j, none⟩ = some v := by
  refine own_cellL h.row ?_
  have : j < 3 := by rw [← ritC_length x]; exact (List.getElem?_eq_some_iff.1 hj).1
  rw [flat_get ritC 3 L k x j (fun y _ => ritC_length y) hk this]
  exact hj
set_option maxHeartbeats 1000000 in
theorem rverdict_any {base : Nat} {w : World} {p : Option Addr} {n c : Nat} {L : List RItA} (h : RLst base w p n c L) (s : ByteArray) (hs : s.size ≤ 140737488355328) (hl : L.length ≤ 64) (hr : ∀ x ∈ L, x.1.rs.length ≤ 80) :
    Calls Tryd.prog 57 #[.slice p n c, .string s] w fun e w' => e = .returned (.int .i64 (rverd (L.map (·.1)) s)) ∧ K0 w w' := by
  refine vc_rverdict p n c s w _ ?_
  refine ⟨fun vs w' => ∃ k : Nat, vs = [.int .i64 (k : Int), .int .i64 (rverd ((L.take k).map (·.1)) s)] ∧ k ≤ L.length ∧ K0 w w', fun vs _ => (match vs with | .int _ x :: _ => L.length - x.toNat | _ => 0), ⟨0, rfl, by omega, .refl _ _⟩, ?_⟩
  rintro x x1 w2 ⟨k, hv, hk, hk2⟩
  simp only [List.cons.injEq, Value.int.injEq, true_and, and_true] at hv
  obtain ⟨rfl, rfl⟩ := hv
  have hn := h.len
  refine bsp_intro (fun hlt => ?_) (fun hge => ?_)
  · have hlt : k < L.length := by simp at hlt; omega
    obtain ⟨y, hy⟩ : ∃ y, L[k]? = some y := ⟨_, List.getElem?_eq_getElem hlt⟩
    have htk : (L.take (k + 1)).map (·.1) = (L.take k).map (·.1) ++ [y.1] := by rw [List.take_add_one, hy, List.map_append]; rfl
    have h2 := h.kp hk2
    obtain ⟨g, rfl, c1⟩ := h2.cell hy (j := 1) rfl
    obtain ⟨g', e', c2⟩ := h2.cell hy (j := 2) rfl
    simp only [Option.some.injEq, Addr.mk.injEq, and_true] at e'
    subst e'
    show (0 ≤ (k : Int) ∧ (k : Int) < (n : Int)) ∧ _
    rw [Int.toNat_natCast]
    refine ⟨by omega, y.1.t, y.2.1, y.1.rs.length, y.2.2, ⟨At_of _ _ fun j v hj => ?_⟩, ⟨(rmatch_any y.1.t y.2.1 y.2.2 y.1.rs s w2 (h2.els y (List.mem_of_getElem? hy)) hs (by have := hr y (List.mem_of_getElem? hy); omega)).mono fun e w3 ⟨he, hk3⟩ => ⟨_, he, ?_⟩⟩⟩
    · match j, hj with
      | 0, hj => simp at hj; subst hj; rw [Nat.zero_add, Nat.add_zero]; exact c1
      | 1, hj => simp at hj; subst hj; rw [Nat.zero_add]; exact c2
    have h3 := h2.kp hk3
    have f1 : IntKind.i64.wrap ((k : Int) + 1) = ((k + 1 : Nat) : Int) := by rw [wr64 (by omega) (by omega)]; omega
    rw [f1]
    have hsn : rverd ((L.take (k + 1)).map (·.1)) s = if rmatchB y.1.rs s = true then y.1.v else rverd ((L.take k).map (·.1)) s := by rw [htk]; simp [rverd]
    refine bsp_intro (fun hm => ?_) (fun hm => ⟨⟨k + 1, ?_, by omega, hk2.trans hk3⟩, by simp only [Int.toNat_natCast]; omega⟩)
    · obtain ⟨g', e', c0⟩ := h3.cell hy (j := 0) rfl
      simp only [Option.some.injEq, Addr.mk.injEq, and_true] at e'
      subst e'
      show (0 ≤ (k : Int) ∧ (k : Int) < (n : Int)) ∧ _
      refine ⟨by omega, y.1.v, by rw [Nat.zero_add]; exact c0, ⟨k + 1, ?_, by omega, hk2.trans hk3⟩, by simp only [Int.toNat_natCast]; omega⟩
      rw [hsn, if_pos hm]
    · rw [hsn, if_neg (by rw [hm]; decide)]
  · have : k = L.length := by simp at hge; omega
    subst this
    rw [List.take_length]
    exact ⟨rfl, hk2⟩
set_option maxHeartbeats 1000000 in
theorem rselects_any {base : Nat} {w : World} {p : Option Addr} {n c : Nat} {L : List RItA} (h : RLst base w p n c L) (hl : L.length ≤ 64) (hr : ∀ x ∈ L, x.1.rs.length ≤ 80) (q : Option Addr) (d : Nat) (zs : List ByteArray) (hz : StrP w q zs) (hn : zs.length ≤ 1073741824) (hs : ∀ z ∈ zs, z.size ≤ 140737488355328) :
    Calls Tryd.prog 36 #[.slice p n c, .slice q zs.length d] w fun e w' => e = .returned (.bool (rselB (L.map (·.1)) zs)) ∧ K0 w w' := by
  refine vc_rselects p n c q zs.length d w _ ?_
  refine ⟨fun vs w2 => ∃ (k : Nat), vs = [.int .i64 k, .bool ((zs.take k).any fun z => rverd (L.map (·.1)) z == 1)] ∧ k ≤ zs.length ∧ (zs.take k).all (fun z => !(rverd (L.map (·.1)) z == 3)) = true ∧ K0 w w2, fun vs _ => (match vs with | .int _ x :: _ => zs.length - x.toNat | _ => 0),
    ⟨0, rfl, by omega, rfl, .refl _ _⟩, fun x x_1 w2 ⟨k, hv, hk, hall, hw2⟩ => ?_⟩
  simp only [List.cons.injEq, Value.int.injEq, true_and, and_true, Value.bool.injEq] at hv
  obtain ⟨rfl, rfl⟩ := hv
  refine bsp_intro (fun hlt => ?_) (fun hge => ?_)
  · have hlt : k < zs.length := by simpa using hlt
    obtain ⟨z, hzk⟩ : ∃ z, zs[k]? = some z := ⟨_, List.getElem?_eq_getElem hlt⟩
    have htk : zs.take (k + 1) = zs.take k ++ [z] := by rw [List.take_add_one, hzk]; rfl
    obtain ⟨b1, o1, rfl, hc⟩ := hz.kp hw2 (fun _ _ _ h => h) k z hzk
    have e0 : (k : Int).toNat = k := by omega
    show (0 ≤ (k : Int) ∧ (k : Int) < (zs.length : Int)) ∧ _
    refine ⟨⟨by omega, by omega⟩, z, by rw [e0]; exact hc, ?_⟩
    refine ⟨(rverdict_any (h.kp hw2) z (hs z (List.mem_of_getElem? hzk)) hl hr).mono fun e w3 ⟨he, hk3⟩ => ⟨_, he, ?_⟩⟩
    have f1 : IntKind.i64.wrap ((k : Int) + 1) = ((k + 1 : Nat) : Int) := by rw [wr64 (by omega) (by omega)]; omega
    rw [f1]
    refine bsp_intro (fun h3 => ⟨?_, hw2.trans hk3⟩) (fun h3 => ⟨⟨k + 1, ?_, by omega, ?_, hw2.trans hk3⟩, by simp only [Int.toNat_natCast]; omega⟩)
    · have : zs.all (fun z => !(rverd (L.map (·.1)) z == 3)) = false := by
        rw [List.all_eq_false]
        exact ⟨z, List.mem_of_getElem? hzk, by simp [h3]⟩
      unfold rselB
      rw [this]; rfl
    · rw [htk, List.any_append]; simp
    · rw [htk, List.all_append, hall]; simp [h3]
  · have hge : ¬ k < zs.length := by simpa using hge
    obtain rfl : k = zs.length := by omega
    rw [List.take_length] at hall ⊢
    exact ⟨by unfold rselB; rw [hall]; rfl, hw2⟩

end Go.Proofs.YtcpjajjocmpkjaaDoor

/- The contracts of the reference's has, Check, Reason and Due: they agree with the program's plain functions. Names have at most 2^47 bytes. -/
namespace Go.Proofs.YtcpjajjocmpkjaaDoor
open Go.RowKit

theorem toList_beq (a b : ByteArray) : (a.toList == b.toList) = decide (a = b) := by
  rw [ByteArray.toList_eq, ByteArray.toList_eq, Bool.eq_iff_iff]
  simp only [beq_iff_eq, decide_eq_true_eq]
  constructor
  · intro h
    cases a; cases b
    congr 1
    exact Array.toList_inj.1 h
  · rintro rfl; rfl
theorem containsS_snoc (zs : List ByteArray) (z s : ByteArray) : Lib.containsS (zs ++ [z]) s = (Lib.containsS zs s || decide (z = s)) := by
  rw [Bool.eq_iff_iff, Bool.or_eq_true, Lib.containsS_iff, Lib.containsS_iff, decide_eq_true_eq, List.mem_append, List.mem_singleton]
  constructor
  · rintro (h | h)
    · exact .inl h
    · exact .inr h.symm
  · rintro (h | h)
    · exact .inl h
    · exact .inr h.symm
theorem has_any (p : Option Addr) (c : Nat) (zs : List ByteArray) (n : Nat) (s : ByteArray) (w : World) (hz : StrP w p zs) (hn : n ≤ zs.length) (hl : zs.length ≤ 9223372036854775807) :
    Calls Tryd.prog 35 #[.slice p n c, .string s] w fun e w' => e = .returned (.bool (Lib.containsS (zs.take n) s)) ∧ w' = w := by
  refine vc_has p n c s w _ ?_
  refine count1 n (by omega) (fun k w' => Lib.containsS (zs.take k) s = false ∧ w' = w) ⟨?_, rfl⟩ ?_
  · cases h : Lib.containsS (zs.take 0) s with
    | false => rfl
    | true => rw [Lib.containsS_iff] at h; simp at h
  rintro I m k w' hk ⟨hno, rfl⟩ next
  refine bsp_intro (fun hlt => ?_) (fun hge => ?_)
  · have hlt : k < n := by simpa using hlt
    obtain ⟨z, hzk⟩ : ∃ z, zs[k]? = some z := ⟨_, List.getElem?_eq_getElem (by omega)⟩
    have htk : zs.take (k + 1) = zs.take k ++ [z] := by rw [List.take_add_one, hzk]; rfl
    obtain ⟨b, o, rfl, hc⟩ := hz k z hzk
    show (0 ≤ (k : Int) ∧ (k : Int) < (n : Int)) ∧ _
    rw [Int.toNat_natCast]
    refine ⟨by omega, z, hc, ?_⟩
    rw [toList_beq]
    refine bsp_intro (fun he => ⟨?_, rfl⟩) (fun he => next hlt w' ⟨?_, rfl⟩)
    · have he : z = s := by simpa using he
      have : Lib.containsS (zs.take n) s = true := by
        rw [Lib.containsS_iff, ← he]
        exact List.mem_of_getElem? (i := k) (by rw [List.getElem?_take, if_pos hlt]; exact hzk)
      rw [this]
    · rw [htk, containsS_snoc, hno, he]; rfl
  · have : k = n := by simp at hge; omega
    subst this
    exact ⟨by rw [hno], rfl⟩

set_option maxHeartbeats 1000000 in
theorem rcheck_any (nb ps : ByteArray) (mb dl : Int) (p : Option Addr) (c : Nat) (ds : List ByteArray) (w : World) (hps : ps.size ≤ 1073741824) (hds : StrP w p ds) (hc : ds.length ≤ c) (hl : ds.length ≤ 1073741824) (hz : ∀ z ∈ ds, z.size ≤ 9223372036854775807) :
    Calls Tryd.prog 13 #[.agg #[.string nb, .string ps, .int .i64 mb, .int .i64 dl, .slice p ds.length c]] w fun e w' => e = .returned (.int .i64 (chkS nb ps mb dl ds)) ∧ K0 w w' := by
  refine vc_rcheck nb ps mb dl p ds.length c w _ ?_
  intro n w1 hn
  have hk1 : K0 w w1 := hn.kp _
  refine ⟨nb, cell_at hn.block rfl, ⟨(refSite_any nb w1).mono fun e w2 ⟨he, hw⟩ => ⟨_, _, he, ?_⟩⟩⟩
  subst hw
  generalize hsi : (siteS nb).2 = si
  generalize (siteS nb).1 = si1
  refine bsp_intro (fun h => ⟨?_, hk1⟩) (fun h => ?_)
  · have h : si ≠ 0 := by simpa using h
    simp [chkS, hsi, h]
  have h : si = 0 := by simpa using h
  refine ⟨ps, cell_at hn.block rfl, ⟨(rparseList_any ps w2 hps).mono fun e w3 ⟨hk3, he⟩ => ?_⟩⟩
  have hk13 : K0 w w3 := hk1.trans hk3
  have hb3 := hk3.blk hn.block (fun h => h)
  cases hL : listR ps with
  | inr oe =>
    obtain ⟨o, er⟩ := oe
    rw [hL] at he
    refine ⟨_, _, _, o, er, he, ?_⟩
    have := listR_err hL
    refine bsp_intro (fun _ => ⟨?_, hk13⟩) (fun h => absurd h (by simpa using this))
    simp [chkS, hsi, h, hL]
  | inl es =>
    rw [hL] at he
    obtain ⟨lp, ln, lc, LL, he, _⟩ := he
    refine ⟨_, _, _, _, _, he, ?_⟩
    refine bsp_intro (fun h => absurd h (by decide)) (fun _ => ?_)
    have c2 : w3.cell? ⟨n, 0 + 2, none⟩ = some (.int .i64 mb) := cell_at hb3 rfl
    have c3 : w3.cell? ⟨n, 0 + 3, none⟩ = some (.int .i64 dl) := cell_at hb3 rfl
    have c4 : w3.cell? ⟨n, 0 + 4, none⟩ = some (.slice p ds.length c) := cell_at hb3 rfl
    refine ⟨mb, c2, mb, gimp_intro fun _ => c2, dl, gimp_intro fun _ => c3, dl, gimp_intro fun _ => c3, ?_⟩
    refine bsp_intro (fun hr => ⟨?_, hk13⟩) (fun hr => ?_)
    · have hr : mb < 0 ∨ 65536 < mb ∨ dl < 0 ∨ 20160 < dl := by simp at hr; omega
      simp [chkS, hsi, h, hL, hr]
    have hr : ¬ (mb < 0 ∨ 65536 < mb ∨ dl < 0 ∨ 20160 < dl) := by simp at hr; omega
    refine ⟨p, ds.length, c, c4, ?_⟩
    refine bsp_intro (fun h8 => ⟨?_, hk13⟩) (fun h8 => ?_)
    · have h8 : 8 < ds.length := by simp at h8; omega
      simp [chkS, hsi, h, hL, hr, h8]
    have h8 : ¬ 8 < ds.length := by simp at h8; omega
    have hR : chkS nb ps mb dl ds = dstS [] ds := by simp [chkS, hsi, h, hL, hr, h8]
    rw [hR]
    refine count1 ds.length (by omega) (fun k w4 => dstS [] ds = dstS (ds.take k) (ds.drop k) ∧ K0 w3 w4) ⟨rfl, .refl _ _⟩ ?_
    intro I m k w4 hk ⟨hS, hk4⟩ next
    have c4' : ∀ wx, K0 w3 wx → wx.cell? ⟨n, 0 + 4, none⟩ = some (.slice p ds.length c) := fun wx hx => cell_at (hx.blk hb3 (fun h => h)) rfl
    refine ⟨p, ds.length, c, c4' w4 hk4, bsp_intro (fun hlt => ?_) (fun hge => ?_)⟩
    · have hlt : k < ds.length := by simpa using hlt
      obtain ⟨z, hzk⟩ : ∃ z, ds[k]? = some z := ⟨_, List.getElem?_eq_getElem hlt⟩
      have hdr : ds.drop k = z :: ds.drop (k + 1) := by
        rw [List.drop_eq_getElem_cons hlt]
        rw [List.getElem?_eq_getElem hlt] at hzk
        simp at hzk
        rw [hzk]
      have htk : ds.take (k + 1) = ds.take k ++ [z] := by rw [List.take_add_one, hzk]; rfl
      rw [hdr] at hS
      have hd4 := hds.kp (hk13.trans hk4) (fun _ _ _ h => h)
      obtain ⟨b1, o1, rfl, hcz⟩ := hd4 k z hzk
      refine ⟨_, ds.length, c, c4' w4 hk4, ?_⟩
      show (0 ≤ (k : Int) ∧ (k : Int) < (ds.length : Int)) ∧ _
      rw [Int.toNat_natCast]
      refine ⟨by omega, z, hcz, ⟨(word_any z (by have := hz z (List.mem_of_getElem? hzk); omega) w4).mono fun e w5 ⟨he, hw⟩ => ⟨_, he, ?_⟩⟩⟩
      subst hw
      refine bsp_intro (fun hd => ⟨?_, hk13.trans hk4⟩) (fun hd => ?_)
      · have hd : distB z = false := by simpa using hd
        rw [hS]; simp [dstS, hd]
      have hd : distB z = true := by simpa using hd
      have hk5 := hk4.drew
      refine ⟨some ⟨b1, o1, none⟩, ds.length, c, c4' _ hk5, ⟨by omega, by omega⟩, some ⟨b1, o1, none⟩, ds.length, c, c4' _ hk5, ?_⟩
      show (0 ≤ (k : Int) ∧ (k : Int) < (ds.length : Int)) ∧ _
      refine ⟨by omega, z, hcz, ?_⟩
      refine ⟨(has_any (some ⟨b1, o1, none⟩) c ds k z w5.drew hd4 (by omega) (by omega)).mono fun e w6 ⟨he, hw⟩ => ⟨_, he, ?_⟩⟩
      subst hw
      refine bsp_intro (fun hcn => ⟨?_, hk13.trans hk5⟩) (fun hcn => ?_)
      · rw [hS]; simp [dstS, hd, hcn]
      · refine next hlt _ ⟨?_, hk5⟩
        rw [hS, htk]; simp [dstS, hd, hcn]
    · have hge : ¬ k < ds.length := by simpa using hge
      obtain rfl : k = ds.length := by omega
      refine ⟨?_, hk13.trans hk4⟩
      rw [hS, List.drop_length]; rfl

theorem relEs_len {es : List Ent} {L : List RItA} (h : RelEnts es (L.map (·.1))) (h64 : es.length ≤ 64) (h80 : ∀ e ∈ es, e.els.length ≤ 80) : L.length ≤ 64 ∧ ∀ x ∈ L, x.1.rs.length ≤ 80 := by
  have hl := h.len
  rw [List.length_map] at hl
  refine ⟨by omega, fun x hx => ?_⟩
  obtain ⟨j, hj, rfl⟩ := List.getElem_of_mem hx
  have hj' : j < es.length := by omega
  have := (h.at_ j es[j] L[j].1 (List.getElem?_eq_getElem hj') (by simp [hj])).els.len
  rw [← this]
  exact h80 _ (List.getElem_mem hj')
set_option maxHeartbeats 1000000 in
theorem rreason_any (nb ps : ByteArray) (mb dl : Int) (p : Option Addr) (c : Nat) (ds : List ByteArray) (x : It) (q : Option Addr) (d : Nat) (es : List Ent) (w : World) (hps : ps.size ≤ 1073741824) (hL : listR ps = .inl es) (hds : StrP w p ds) (hl : ds.length ≤ 1073741824) (hg : StrP w q x.gs) (hgl : x.gs.length ≤ 1073741824) (hgz : ∀ z ∈ x.gs, z.size ≤ 140737488355328) :
    Calls Tryd.prog 15 #[.agg #[.string nb, .string ps, .int .i64 mb, .int .i64 dl, .slice p ds.length c], .agg (x.cells q d)] w fun e w' => e = .returned (.int .i64 (rsnS nb mb ds es x)) ∧ K0 w w' := by
  refine vc_rreason nb ps mb dl p ds.length c (x.cells q d) w _ ?_
  intro n w1 hn n1 w2 hn1
  have hb := (hn1.kp (fun _ => False)).blk hn.block (fun h => h)
  have hb1 := hn1.block
  have k2 : K0 w w2 := (hn.kp (fun _ => False)).trans (hn1.kp _)
  refine ⟨x.fr, cell_at hb1 rfl, nb, cell_at hb rfl, bsp_intro (fun h1 => ⟨?_, k2⟩) (fun h1 => ⟨x.ct, cell_at hb1 rfl, bsp_intro (fun hc => ⟨?_, k2⟩) (fun hc => ?_)⟩)⟩
  · unfold rsnS; rw [if_pos (show rsnB nb mb ds es x 1 = true from h1)]
  · unfold rsnS; rw [if_neg (by rw [show rsnB nb mb ds es x 1 = false from h1]; decide)]
    simp [rsnB, hc]
  have e1 : rsnS nb mb ds es x = if rsnB nb mb ds es x 2 = true then 2 else if rsnB nb mb ds es x 3 = true then 3 else if rsnB nb mb ds es x 4 = true then 4 else 0 := by
    unfold rsnS; rw [if_neg (by rw [show rsnB nb mb ds es x 1 = false from h1]; decide)]
  rw [e1]
  obtain ⟨h64, h80⟩ := listR_ok hL
  refine ⟨ps, cell_at hb rfl, ⟨(rparseList_any ps w2 hps).mono fun e w3 ⟨hk3, he⟩ => ?_⟩⟩
  rw [hL] at he
  obtain ⟨lp, ln, lc, LL, he, hRL, hrel⟩ := he
  obtain ⟨l64, l80⟩ := relEs_len hrel h64 h80
  have k3 : K0 w w3 := k2.trans hk3
  have hb3 := hk3.blk hb (fun h => h)
  have hb13 := hk3.blk hb1 (fun h => h)
  refine ⟨_, _, _, _, _, he, q, x.gs.length, d, cell_at hb13 rfl, ⟨(rselects_any hRL l64 l80 q d x.gs (hg.kp k3 (fun _ _ _ h => h)) hgl hgz).mono fun e w4 ⟨he, hk4⟩ => ⟨_, he, ?_⟩⟩⟩
  rw [← rel_sel hrel]
  have k4 : K0 w w4 := k3.trans hk4
  have hb4 := hk4.blk hb3 (fun h => h)
  have hb14 := hk4.blk hb13 (fun h => h)
  have e2 : rsnB nb mb ds es x 2 = !selB es x.gs := by simp [rsnB, hc]
  refine bsp_intro (fun h2 => ⟨?_, k4⟩) (fun h2 => ?_)
  · rw [if_pos (by rw [e2]; exact h2)]
  rw [if_neg (by rw [e2, h2]; decide)]
  have e3 : rsnB nb mb ds es x 3 = (mb != 0 && decide (mb < x.by_)) := by simp [rsnB, hc]
  refine ⟨mb, cell_at hb4 rfl, mb, gimp_intro fun _ => cell_at hb4 rfl, x.by_, gimp_intro fun _ => cell_at hb14 rfl, bsp_intro (fun h3 => ⟨?_, k4⟩) (fun h3 => ?_)⟩
  · rw [if_pos (by rw [e3]; exact h3)]
  rw [if_neg (by rw [e3, h3]; decide)]
  have e4 : rsnB nb mb ds es x 4 = (decide ((ds.length : Int) > 0) && !x.d.toList == [] && !Lib.containsS ds x.d) := by simp [rsnB, hc]
  refine ⟨p, ds.length, c, cell_at hb4 rfl, x.d, gimp_intro fun _ => cell_at hb14 rfl, p, ds.length, c, gimp_intro fun _ => cell_at hb4 rfl, x.d, gimp_intro fun _ => cell_at hb14 rfl, bsp_intro (fun h4 => ?_) (fun h4 => ⟨?_, k4⟩)⟩
  · refine ⟨(has_any p c ds ds.length x.d w4 (hds.kp k4 (fun _ _ _ h => h)) (Nat.le_refl _) (by omega)).mono fun e w5 ⟨he, hw⟩ => ⟨_, he, ?_⟩⟩
    subst hw
    rw [List.take_length]
    refine bsp_intro (fun h5 => ⟨?_, k4⟩) (fun h5 => ⟨?_, k4⟩)
    · rw [if_pos (by rw [e4, h4]; exact h5)]
    · rw [if_neg (by rw [e4, h4, h5]; decide)]
  · rw [if_neg (by rw [e4, h4]; simp)]
theorem rdue_any (nb ps : ByteArray) (mb dl : Int) (p : Option Addr) (n c : Nat) (x : It) (q : Option Addr) (d : Nat) (w : World) (hdl : 0 ≤ dl ∧ dl ≤ 20160) (har : -9223372036854775808 ≤ x.ar ∧ x.ar ≤ 9223372036854775807) :
    Calls Tryd.prog 18 #[.agg #[.string nb, .string ps, .int .i64 mb, .int .i64 dl, .slice p n c], .agg (x.cells q d)] w fun e w' => e = .returned (.int .i64 (dueS dl x.ar)) ∧ K0 w w' := by
  refine vc_rdue nb ps mb dl p n c (x.cells q d) w _ ?_
  intro n1 w1 hn n2 w2 hn1
  have hb := (hn1.kp (fun _ => False)).blk hn.block (fun h => h)
  have hb1 := hn1.block
  have k2 : K0 w w2 := (hn.kp (fun _ => False)).trans (hn1.kp _)
  refine ⟨x.ar, cell_at hb1 rfl, dl, cell_at hb rfl, ?_⟩
  rw [wr64 (x := 9223372036854775807 - dl) (by omega) (by omega)]
  refine bsp_intro (fun hd => ⟨?_, k2⟩) (fun hd => ⟨x.ar, cell_at hb1 rfl, dl, cell_at hb rfl, ?_, k2⟩)
  · have hd : 9223372036854775807 - dl < x.ar := by simpa using hd
    unfold dueS; rw [if_pos hd]
  · have hd : ¬ 9223372036854775807 - dl < x.ar := by simpa using hd
    rw [wr64 (by omega) (by omega)]; unfold dueS; rw [if_neg hd]

end Go.Proofs.YtcpjajjocmpkjaaDoor
