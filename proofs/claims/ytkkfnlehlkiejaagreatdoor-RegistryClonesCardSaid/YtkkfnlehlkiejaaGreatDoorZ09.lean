/- The formulas of functions by the symbolic evaluator, and that each gives the call's contract. Written by a program (gen.py). No condition. -/
import Derived.Test.YtkkfnlehlkiejaaGreatDoorProg
import Derived.Test.YtkkfnlehlkiejaaGreatDoorZ02
import Derived.Test.YtkkfnlehlkiejaaGreatDoorZ03
import Derived.KernelRfl
import Derived.Test.YtkkfnlehlkiejaaGreatDoorZ08
import Derived.Test.YtkkfnlehlkiejaaGreatDoorZ05
namespace Go.Proofs.YtkkfnlehlkiejaaGreatDoor
set_option maxRecDepth 100000
set_option linter.unusedVariables false

def VC_rparseList (s : ByteArray) (w : World) (R : Ending → World → Prop) : Prop :=
 bsp (s.toList == [])
 (R (Ending.returned (Value.tuple #[Value.slice none 0 0, Value.int IntKind.i64 0, Value.int IntKind.i64 4])) w)
 (∃ (I : List Value → World → Prop),
 ∃ (m : List Value → World → Nat),
 I [Value.int IntKind.i64 0, Value.int IntKind.i64 0, Value.slice none 0 0] w ∧
 ∀ (x x_1 : Int) (p : Option Addr) (n c : Nat) (w' : World),
 I [Value.int IntKind.i64 x, Value.int IntKind.i64 x_1, Value.slice p n c] w' →
 bsp (decide (x ≤ (↑s.size : Int)))
 (gimp (decide (x < (↑s.size : Int))) (0 ≤ x ∧ x < (↑s.size : Int)) ∧
 bsp (decide (x < (↑s.size : Int)) && at8 s x.toNat != 44)
 (I [Value.int IntKind.i64 (IntKind.i64.wrap (x + 1)), Value.int IntKind.i64 x_1, Value.slice p n c] w' ∧
 m [Value.int IntKind.i64 (IntKind.i64.wrap (x + 1)), Value.int IntKind.i64 x_1, Value.slice p n c] w' <
 m [Value.int IntKind.i64 x, Value.int IntKind.i64 x_1, Value.slice p n c] w')
 (bsp ((↑n : Int) == 64)
 (R (Ending.returned (Value.tuple #[Value.slice none 0 0, Value.int IntKind.i64 x_1, Value.int IntKind.i64 9]))
 w')
 (∀ (n_1 : Nat) (w1 : World),
 NewB w' (Obj.cells #[Value.int IntKind.i64 0, Value.string (ByteArray.mk #[]), Value.slice none 0 0] 131) n_1
 w1 →
 WrL w1 n_1 0 3 ∧
 ∀ (w1_1 : World),
 PutB w1 n_1 0 [Value.int IntKind.i64 1, Value.string (ByteArray.mk #[]), Value.slice none 0 0] w1_1 →
 ∃ (J : List Value → World → Prop),
 (gimp (decide (x_1 < x)) (0 ≤ x_1 ∧ x_1 < (↑s.size : Int)) ∧
 bsp (decide (x_1 < x) && at8 s x_1.toNat == 33)
 (((∃ (u : Value), w1_1.cell? (Addr.mk n_1 0 none) = some u) ∧
 w1_1.frozen? (Addr.mk n_1 0 none) = false) ∧
 ∀ (w1 : World),
 PutB w1_1 n_1 0 [Value.int IntKind.i64 2] w1 →
 J [Value.int IntKind.i64 (IntKind.i64.wrap (x_1 + 1))] w1)
 (gimp (decide (x_1 < x)) (0 ≤ x_1 ∧ x_1 < (↑s.size : Int)) ∧
 bsp (decide (x_1 < x) && at8 s x_1.toNat == 64)
 (((∃ (u : Value), w1_1.cell? (Addr.mk n_1 0 none) = some u) ∧
 w1_1.frozen? (Addr.mk n_1 0 none) = false) ∧
 ∀ (w1 : World),
 PutB w1_1 n_1 0 [Value.int IntKind.i64 3] w1 →
 J [Value.int IntKind.i64 (IntKind.i64.wrap (x_1 + 1))] w1)
 (J [Value.int IntKind.i64 x_1] w1_1))) ∧
 ∀ (x_2 : Int) (w'_1 : World),
 J [Value.int IntKind.i64 x_2] w'_1 →
 (0 ≤ x_2 ∧ x_2 ≤ x ∧ x ≤ (↑s.size : Int)) ∧
 CallsS Tryz.prog 66 #[Value.string (s.extract x_2.toNat x.toNat)] w'_1
 fun (e : Ending) (w'_2 : World) =>
 ∃ (x_3 : ByteArray),
 ∃ (p_1 : Option Addr),
 ∃ (n_2 : Nat),
 ∃ (c_1 : Nat),
 ∃ (x_4 : Int),
 ∃ (x_5 : Int),
 e =
 Ending.returned
 (Value.tuple
 #[Value.agg #[Value.string x_3, Value.slice p_1 n_2 c_1], Value.int IntKind.i64 x_4,
 Value.int IntKind.i64 x_5]) ∧
 ∀ (n_3 : Nat) (w1 : World),
 NewB w'_2 (Obj.cells #[Value.string (ByteArray.mk #[]), Value.slice none 0 0] 129) n_3 w1 →
 WrL w1 n_3 0 2 ∧
 ∀ (w1_2 : World),
 PutB w1 n_3 0 [Value.string x_3, Value.slice p_1 n_2 c_1] w1_2 →
 bsp (x_5 != 0)
 (R
 (Ending.returned
 (Value.tuple
 #[Value.slice none 0 0, Value.int IntKind.i64 (IntKind.i64.wrap (x_2 + x_4)),
 Value.int IntKind.i64 x_5]))
 w1_2)
 (∃ (x_6 : ByteArray),
 ∃ (p_2 : Option Addr),
 ∃ (n_4 : Nat),
 ∃ (c_2 : Nat),
 AtL w1_2 n_3 0 [Value.string x_6, Value.slice p_2 n_4 c_2] ∧
 WrL w1_2 n_1 (0 + 1) 2 ∧
 ∀ (w1 : World),
 PutB w1_2 n_1 (0 + 1) [Value.string x_6, Value.slice p_2 n_4 c_2] w1 →
 ∃ (x_7 : Int),
 ∃ (x_8 : ByteArray),
 ∃ (p_3 : Option Addr),
 ∃ (n_5 : Nat),
 ∃ (c_3 : Nat),
 AtL w1 n_1 0
 [Value.int IntKind.i64 x_7, Value.string x_8,
 Value.slice p_3 n_5 c_3] ∧
 ∀ (n_6 : Nat) (w1_3 : World),
 NewB w1
 (Obj.cells
 #[Value.int IntKind.i64 x_7, Value.string x_8,
 Value.slice p_3 n_5 c_3]
 131)
 n_6 w1_3 →
 ∃ (base : Nat),
 ∃ (xs : List Value),
 ∃ (news : List Value),
 w1_3.ownsRow base 131 3 (Value.slice p n c) n xs ∧
 news.length = 3 ∧
 SrcP w1_3 (some (Addr.mk n_6 0 none)) news ∧
 n + 1 ≤ 9223372036854775807 ∧
 (n + 1) * 48 ≤ 140737488355328 ∧
 base ≤ w1_3.heap.size ∧
 ∀ (p' : Option Addr) (c' : Nat) (w'_3 : World),
 w'_3.ownsRow base 131 3 (Value.slice p' (n + 1) c') (n + 1)
 (xs ++ news) →
 w1_3.grownBy w'_3 (Value.slice p n c).ownBlock →
 (n + 1 ≤ c → p' = p ∧ c' = c) →
 I
 [Value.int IntKind.i64 (IntKind.i64.wrap (x + 1)),
 Value.int IntKind.i64 (IntKind.i64.wrap (x + 1)),
 Value.slice p' (n + 1) c']
 w'_3 ∧
 m
 [Value.int IntKind.i64 (IntKind.i64.wrap (x + 1)),
 Value.int IntKind.i64 (IntKind.i64.wrap (x + 1)),
 Value.slice p' (n + 1) c']
 w'_3 <
 m
 [Value.int IntKind.i64 x, Value.int IntKind.i64 x_1,
 Value.slice p n c]
 w'))))
 (R (Ending.returned (Value.tuple #[Value.slice p n c, Value.int IntKind.i64 0, Value.int IntKind.i64 0])) w'))
theorem vc_rparseList (s : ByteArray) (w : World) (R : Ending → World → Prop) (h : VC_rparseList s w R) : Calls Tryz.prog 45 ([Value.string
    s] : List Value).toArray w R := by
  have e : execR { P := Tryz.prog, loops := [(6, [(7, Ck.int IntKind.i64), (6, Ck.int IntKind.i64), (5, Ck.slice)])], pur := pur1, tails := [], joins := [(19, [(9, Ck.int IntKind.i64)])], boxes := [] } Tryz.f45.results.toList R (Tryz.f45.body.getD .skip) (initF [Value.string
    s] (Tryz.f45.ntmps - ([Value.string s] : List Value).length)) w = VC_rparseList s w R := by kernel_rfl
  have hb : Tryz.f45.body = some (Tryz.f45.body.getD .skip) := by kernel_rfl
  exact calls_of_exec' (P := Tryz.prog) (fn := Tryz.f45) (c := Tryz.f45.body.getD .skip) (args := [Value.string
    s]) (w := w) (R := R) pur1_ok Tryz.func45 hb e h

end Go.Proofs.YtkkfnlehlkiejaaGreatDoor

/- The contract of the reference's ParseList: it agrees with the program's. The text has at most 2^30 bytes. -/
namespace Go.Proofs.YtkkfnlehlkiejaaGreatDoor
open Go.RowKit

/-- An entry of the reference's list, and where its elements lie. -/
abbrev RItA := REnt × Option Addr × Nat
def ritC (x : RItA) : List Value := [.int .i64 x.1.v, .string x.1.t, .slice x.2.1 x.1.rs.length x.2.2]
/-- The reference's list in the memory. -/
structure RLst (base : Nat) (w : World) (p : Option Addr) (n c : Nat) (L : List RItA) : Prop where
  len : n = L.length
  row : w.ownsRow base 131 3 (.slice p n c) n (L.flatMap ritC)
  els : ∀ x ∈ L, w.ownsRow base 160 129 (.slice x.2.1 x.1.rs.length x.2.2) x.1.rs.length (rows x.1.rs)
theorem RLst.kp {base : Nat} {w w' : World} {p : Option Addr} {n c : Nat} {L : List RItA} (h : RLst base w p n c L) (hk : K0 w w') : RLst base w' p n c L :=
  ⟨h.len, owns_kp h.row hk (fun _ _ h => h), fun x hx => owns_kp (h.els x hx) hk (fun _ _ h => h)⟩
theorem hp1 (x : ByteArray) (c : UInt8) : Lib.hasPrefix x.data.toList [c] = (decide (0 < x.size) && at8 x 0 == (c.toNat : Int)) := by
  have hl : x.data.toList.length = x.size := x.data.length_toList
  cases hd : x.data.toList with
  | nil =>
    rw [hd] at hl
    have : ¬ 0 < x.size := by simp at hl; omega
    simp [this, Lib.hasPrefix]
  | cons a r =>
    have h0 : 0 < x.size := by rw [hd] at hl; simp at hl; omega
    have g := at8_byte h0
    rw [hd] at g
    simp at g
    have hb := at8_bd x 0
    have ea : at8 x 0 = (a.toNat : Int) := by
      rw [g, UInt8.toNat_ofNat']
      omega
    rw [ea]
    simp only [Lib.hasPrefix, List.isPrefixOf, h0, decide_true, Bool.true_and, Bool.and_true]
    rw [Bool.eq_iff_iff]
    simp only [beq_iff_eq]
    constructor
    · rintro rfl; rfl
    · intro h
      apply UInt8.toNat_inj.1
      omega
theorem ext_ext (s : ByteArray) (a b i j : Nat) (h : a + j ≤ b) : (s.extract a b).extract i j = s.extract (a + i) (a + j) := by
  rw [ByteArray.extract_extract]
  congr 1
  omega

set_option maxHeartbeats 1000000 in
theorem rparseList_any (s : ByteArray) (w : World) (hs : s.size ≤ 1073741824) : Calls Tryz.prog 45 #[.string s] w fun e w' => K0 w w' ∧
    match listR s with
    | .inl es => ∃ p n c L, e = .returned (.tuple #[.slice p n c, .int .i64 0, .int .i64 0]) ∧ RLst w.heap.size w' p n c L ∧ RelEnts es (L.map (·.1))
    | .inr (o, x) => e = .returned (.tuple #[.slice none 0 0, .int .i64 o, .int .i64 x]) := by
  refine vc_rparseList s w _ ?_
  unfold VC_rparseList
  rw [toList_nil]
  refine bsp_intro (fun h0 => ⟨.refl _ _, ?_⟩) (fun h0 => ?_)
  · have h0 : s.size = 0 := by simpa using h0
    unfold listR; rw [if_pos h0]
  have h0 : ¬ s.size = 0 := by simpa using h0
  have hR : listR s = entsS (partsS s) 0 [] := by unfold listR; rw [if_neg h0]
  rw [hR]
  generalize hG : entsS (partsS s) 0 [] = G
  refine ⟨fun vs w' => ∃ (i fr : Nat) (acc : List Ent) (p : Option Addr) (n c : Nat) (L : List RItA), vs = [.int .i64 i, .int .i64 fr, .slice p n c] ∧ i ≤ s.size + 1 ∧ RelEnts acc (L.map (·.1)) ∧ RLst w.heap.size w' p n c L ∧ K0 w w' ∧ acc.length ≤ 64 ∧
      ((i ≤ s.size ∧ fr ≤ i ∧ entsS (partsS (s.extract fr s.size)) fr acc = G ∧ ∀ j, fr ≤ j → j < i → at8 s j ≠ 44) ∨ (i = s.size + 1 ∧ G = .inl acc)),
    fun vs _ => (match vs with | .int _ x :: _ => s.size + 1 - x.toNat | _ => 0), ⟨0, 0, [], none, 0, 0, [], rfl, by omega, ⟨rfl, fun j e r h _ => by simp at h⟩, ⟨rfl, World.ownsRow_nil _ _ _ _, fun x hx => by cases hx⟩, .refl _ _, by simp, .inl ⟨by omega, by omega, ?_, fun j _ hj => by omega⟩⟩, ?_⟩
  · rw [show s.extract 0 s.size = s from ByteArray.extract_zero_size]; exact hG
  rintro x x1 p n c w' ⟨i, fr, acc, p', n', c', L, hv, hi, hrel, hL, hk, h64, hst⟩
  simp only [List.cons.injEq, Value.int.injEq, Value.slice.injEq, true_and, and_true] at hv
  obtain ⟨rfl, rfl, rfl, rfl, rfl⟩ := hv
  have hnl : n = acc.length := by rw [hL.len, hrel.len, List.length_map]
  refine bsp_intro (fun hle => ?_) (fun hgt => ?_)
  · have hle : i ≤ s.size := by simp at hle; omega
    obtain ⟨_, hfr, hE, hno⟩ : i ≤ s.size ∧ fr ≤ i ∧ entsS (partsS (s.extract fr s.size)) fr acc = G ∧ ∀ j, fr ≤ j → j < i → at8 s j ≠ 44 := by
      rcases hst with h | h
      · exact h
      · omega
    have ei : (i : Int).toNat = i := by omega
    rw [ei, wr64 (x := (i : Int) + 1) (by omega) (by omega)]
    refine ⟨gimp_intro fun h => ⟨by omega, by simpa using h⟩, bsp_intro (fun hc => ?_) (fun hc => ?_)⟩
    · have hlt : i < s.size := by simp at hc; omega
      have h44 : at8 s i ≠ 44 := by simp at hc; exact hc.2
      refine ⟨⟨i + 1, fr, acc, p, n, c, L, by congr 2, by omega, hrel, hL, hk, h64, .inl ⟨by omega, by omega, hE, fun j h1 h2 => ?_⟩⟩, by simp only; omega⟩
      by_cases e : j = i
      · rw [e]; exact h44
      · exact hno j h1 (by omega)
    -- a part ends here
    have hrsz : (s.extract fr s.size).size = s.size - fr := by rw [ByteArray.size_extract]; omega
    obtain ⟨ps, hps, hnx⟩ : ∃ ps, partsS (s.extract fr s.size) = s.extract fr i :: ps ∧ ∀ acc', entsS ps ((i : Int) + 1) acc' = (if i < s.size then entsS (partsS (s.extract (i + 1) s.size)) ((i : Int) + 1) acc' else .inl acc') := by
      by_cases hlt : i < s.size
      · have h44 : at8 s i = 44 := by
          have : decide ((i : Int) < (s.size : Int)) = true := by simp; omega
          rw [this] at hc
          simpa using hc
        refine ⟨_, ?_, fun acc' => (if_pos hlt).symm⟩
        have := parts_hit (s := s.extract fr s.size) (i := i - fr) (by omega) (by rw [at8_extract s fr s.size (i - fr) (by omega) (Nat.le_refl _), show fr + (i - fr) = i by omega]; exact h44) (fun j hj => by
          rw [at8_extract s fr s.size j (by omega) (Nat.le_refl _)]; exact hno _ (by omega) (by omega))
        rw [this, ext_ext s fr s.size 0 (i - fr) (by omega), hrsz, ext_ext s fr s.size (i - fr + 1) (s.size - fr) (by omega)]
        rw [show fr + 0 = fr by omega, show fr + (i - fr) = i by omega, show fr + (i - fr + 1) = i + 1 by omega, show fr + (s.size - fr) = s.size by omega]
      · have e : i = s.size := by omega
        refine ⟨[], ?_, fun acc' => by rw [if_neg hlt]; rfl⟩
        rw [parts_miss (fun j hj => by rw [at8_extract s fr s.size j (by omega) (Nat.le_refl _)]; exact hno _ (by omega) (by omega)), e]
    rw [hps] at hE
    generalize hpt : s.extract fr i = part at *
    have psz : part.size = i - fr := by rw [← hpt, ByteArray.size_extract]; omega
    have pat : 0 < part.size → at8 part 0 = at8 s fr := fun h => by rw [← hpt, at8_extract s fr i 0 (by omega) hle]; rfl
    unfold entsS at hE
    refine bsp_intro (fun hn => ⟨hk, ?_⟩) (fun hn => ?_)
    · have hn : acc.length = 64 := by simp at hn; omega
      rw [if_pos hn] at hE
      rw [← hE]
    have hn : ¬ acc.length = 64 := by simp at hn; omega
    rw [if_neg hn] at hE
    intro n1 w1 hn1
    refine ⟨WrL_block hn1.block (by simp), fun w2 hp2 => ?_⟩
    have b2 : w2.heap[n1]? = some (.cells #[.int .i64 1, .string ⟨#[]⟩, .slice none 0 0] 131 (0, 0)) := hp2.full hn1.block rfl
    have g1 : w'.heap.size ≤ n1 := hn1.ge
    have k2 : K0 w' w2 := (hn1.kp _).fresh hp2.kp (fun i hi e => by omega)
    have efr : (fr : Int).toNat = fr := by omega
    rw [efr, wr64 (x := (fr : Int) + 1) (by omega) (by omega)]
    -- the mark of a part
    have h33 : (decide ((fr : Int) < (i : Int)) && at8 s fr == 33) = Lib.hasPrefix part.data.toList [33] := by
      rw [hp1]
      by_cases h : fr < i
      · have h1 : decide ((fr : Int) < (i : Int)) = true := by simp; omega
        have h2 : decide (0 < part.size) = true := decide_eq_true (by omega)
        rw [h1, h2, pat (by omega)]; rfl
      · have h1 : decide ((fr : Int) < (i : Int)) = false := by simp; omega
        have h2 : decide (0 < part.size) = false := decide_eq_false (by omega)
        rw [h1, h2]; rfl
    have h64' : (decide ((fr : Int) < (i : Int)) && at8 s fr == 64) = Lib.hasPrefix part.data.toList [64] := by
      rw [hp1]
      by_cases h : fr < i
      · have h1 : decide ((fr : Int) < (i : Int)) = true := by simp; omega
        have h2 : decide (0 < part.size) = true := decide_eq_true (by omega)
        rw [h1, h2, pat (by omega)]; rfl
      · have h1 : decide ((fr : Int) < (i : Int)) = false := by simp; omega
        have h2 : decide (0 < part.size) = false := decide_eq_false (by omega)
        rw [h1, h2]; rfl
    rw [h33, h64']
    have hgi : gimp (decide ((fr : Int) < (i : Int))) (0 ≤ (fr : Int) ∧ (fr : Int) < (s.size : Int)) := gimp_intro fun h => ⟨by omega, by simp at h; omega⟩
    refine ⟨fun vs wx => ∃ d : Nat, vs = [.int .i64 ((fr + d : Nat) : Int)] ∧ fr + d ≤ i ∧ bareS part = s.extract (fr + d) i ∧ wx.heap[n1]? = some (.cells #[.int .i64 (markI part), .string ⟨#[]⟩, .slice none 0 0] 131 (0, 0)) ∧ K0 w' wx, ?_, ?_⟩
    · have one : ∀ (m : Int) (wx : World), (Lib.hasPrefix part.data.toList [33] = true ∨ Lib.hasPrefix part.data.toList [64] = true) → markI part = m → PutB w2 n1 0 [.int .i64 m] wx → ∃ d : Nat, [Value.int .i64 ((fr : Int) + 1)] = [Value.int .i64 ((fr + d : Nat) : Int)] ∧ fr + d ≤ i ∧ bareS part = s.extract (fr + d) i ∧ wx.heap[n1]? = some (.cells #[.int .i64 (markI part), .string ⟨#[]⟩, .slice none 0 0] 131 (0, 0)) ∧ K0 w' wx := fun m wx hor hm hp => by
        have hpos : 1 ≤ part.size := by rcases hor with h | h <;> exact hasPrefix1 h
        refine ⟨1, by congr 2, by omega, ?_, ?_, k2.fresh hp.kp (fun i hi e => by omega)⟩
        · unfold bareS
          rw [if_neg (by
            unfold markI
            rcases hor with h | h
            · rw [if_pos h]; decide
            · split <;> decide)]
          rw [psz, ← hpt, ext_ext s fr i 1 (i - fr) (by omega), show fr + (i - fr) = i by omega]
        · rw [hm]; exact hp.block b2
      refine ⟨hgi, bsp_intro (fun h => ⟨cell_wr b2 (by simp), fun w3 hp3 => one 2 w3 (.inl h) (by unfold markI; rw [if_pos h]) hp3⟩) (fun h => ⟨hgi, bsp_intro (fun h' => ⟨cell_wr b2 (by simp), fun w3 hp3 => one 3 w3 (.inr h') (by unfold markI; rw [if_neg (by rw [h]; decide), if_pos h']) hp3⟩) (fun h' => ?_)⟩)⟩
      have hm : markI part = 1 := by unfold markI; rw [if_neg (by rw [h]; decide), if_neg (by rw [h']; decide)]
      refine ⟨0, by congr 2, by omega, ?_, ?_, k2⟩
      · unfold bareS; rw [if_pos hm, ← hpt]; rfl
      · rw [hm]; exact b2
    rintro x2 w3 ⟨d, hv, hd, hbare, b3, k3⟩
    have hv : x2 = ((fr + d : Nat) : Int) := by simpa using hv
    subst hv
    have ed : (((fr + d : Nat) : Int)).toNat = fr + d := Int.toNat_natCast _
    rw [ed, ← hbare]
    refine ⟨⟨by omega, by omega, by omega⟩, ⟨(rcompile_any (bareS part) w3).mono fun e w4 ⟨hk4, he⟩ => ?_⟩⟩
    have bsz : (bareS part).size = i - (fr + d) := by rw [hbare, ByteArray.size_extract]; omega
    have b4 := hk4.blk b3 (fun h => h)
    cases hc : compileR (bareS part) with
    | inr oe =>
      obtain ⟨o, er⟩ := oe
      rw [hc] at he hE
      have hoe := compileR_off _ _ _ hc
      refine ⟨_, _, _, _, _, _, he, fun n3 w5 hn3 => ⟨WrL_block hn3.block (by simp), fun w6 hp6 => bsp_intro (fun _ => ⟨?_, ?_⟩) (fun h => ?_)⟩⟩
      · exact ((hk.trans k3).trans (hk4.trans (hn3.kp _))).fresh hp6.kp (fun i hi e => by have := ((hk.trans k3).trans hk4).size; have := hn3.ge; omega)
      · rw [← hE]
        simp only
        rw [wr64 (by omega) (by omega), psz, bsz, show (fr : Int) + ((i - fr : Nat) : Int) - ((i - (fr + d) : Nat) : Int) + (o : Int) = ((fr + d : Nat) : Int) + (o : Int) by omega]
      · exfalso
        apply hoe.2
        simpa using h
    | inl els =>
      rw [hc] at he hE
      obtain ⟨q, cq, rs, he, hrow, hre⟩ := he
      refine ⟨_, _, _, _, _, _, he, fun n3 w5 hn3 => ⟨WrL_block hn3.block (by simp), fun w6 hp6 => bsp_intro (fun h => absurd h (by decide)) (fun _ => ?_)⟩⟩
      have k6 : K0 w4 w6 := (hn3.kp (fun _ => False)).fresh hp6.kp (fun i hi e => by have := hn3.ge; omega)
      have c6 := hp6.full hn3.block rfl
      have b6 := k6.blk b4 (fun h => h)
      refine ⟨_, _, _, _, AtL_block c6 rfl, WrL_block b6 (by simp), fun w7 hp7 => ?_⟩
      have b7 : w7.heap[n1]? = some (.cells #[.int .i64 (markI part), .string (bareS part), .slice q rs.length cq] 131 (0, 0)) := by
        have := hp7.block b6
        simpa [putL] using this
      have k7 : K0 w' w7 := ((k3.trans hk4).trans k6).fresh hp7.kp (fun i hi e => by omega)
      refine ⟨_, _, _, _, _, AtL_block b7 rfl, fun n6 w8 hn8 => ?_⟩
      have hL7 := hL.kp k7
      have hr7 : w7.ownsRow w.heap.size 160 129 (.slice q rs.length cq) rs.length (rows rs) := by
        have h4 : w4.ownsRow w.heap.size 160 129 (.slice q rs.length cq) rs.length (rows rs) := ⟨hrow.1, hrow.2.imp id fun ⟨g, cap, cur, a1, a2, a3⟩ => ⟨g, cap, cur, a1, by have := (hk.trans k3).size; omega, a3⟩⟩
        refine owns_kp (owns_kp h4 k6 (fun _ _ h => h)) hp7.kp (fun k hk e => ?_)
        obtain ⟨cc, hcc⟩ := own_type (owns_kp h4 k6 (fun _ _ h => h)) hk
        rw [e, b6] at hcc
        simp at hcc
      refine app1 hL7.row (hk.trans k7).size hn8 rfl (fun u hu => by simp at hu; rcases hu with rfl | rfl | rfl <;> rfl) (by omega) (by omega) (fun p9 c9 w9 ho9 hk9 _ => ?_)
      have keepE : ∀ (y : RItA), w7.ownsRow w.heap.size 160 129 (.slice y.2.1 y.1.rs.length y.2.2) y.1.rs.length (rows y.1.rs) → w9.ownsRow w.heap.size 160 129 (.slice y.2.1 y.1.rs.length y.2.2) y.1.rs.length (rows y.1.rs) := fun y hy =>
        owns_kp hy hk9 (fun k hk e => by
          obtain ⟨c1, h1⟩ := own_type hy hk
          obtain ⟨c2, h2⟩ := own_type hL7.row e
          rw [h1] at h2
          simp at h2)
      refine ⟨⟨i + 1, i + 1, acc ++ [⟨bareS part, els, markI part⟩], p9, n + 1, c9, L ++ [(⟨bareS part, rs, markI part⟩, q, cq)], by congr 2, by omega, ?_, ⟨?_, ?_, ?_⟩, ?_, ?_, ?_⟩, by simp only; omega⟩
      · rw [List.map_append]
        exact hrel.snoc ⟨rfl, rfl, hre⟩
      · rw [List.length_append, ← hL.len]; rfl
      · rw [List.flatMap_append]; exact ho9
      · intro y hy
        rcases List.mem_append.1 hy with h | h
        · exact keepE y (hL7.els y h)
        · simp at h; subst h; exact keepE _ hr7
      · exact (hk.trans k7).fresh hk9 (fun i hi e => by have := own_ge hL7.row e; omega)
      · simp; omega
      · have hE' : entsS ps ((i : Int) + 1) (acc ++ [⟨bareS part, els, markI part⟩]) = G := by
          rw [← hE]
          simp only
          congr 1
          rw [psz]; omega
        rw [hnx] at hE'
        by_cases hlt : i < s.size
        · rw [if_pos hlt] at hE'
          exact .inl ⟨by omega, by omega, hE', fun j h1 h2 => by omega⟩
        · rw [if_neg hlt] at hE'
          exact .inr ⟨by omega, hE'.symm⟩
  · have hgt : ¬ i ≤ s.size := by simp at hgt; omega
    rcases hst with h | ⟨_, hGa⟩
    · omega
    refine ⟨hk, ?_⟩
    rw [hGa]
    exact ⟨p, n, c, L, rfl, hL, hrel⟩

end Go.Proofs.YtkkfnlehlkiejaaGreatDoor

/- The formulas of functions by the symbolic evaluator, and that each gives the call's contract. Written by a program (gen.py). No condition. -/
namespace Go.Proofs.YtkkfnlehlkiejaaGreatDoor
set_option maxRecDepth 100000
set_option linter.unusedVariables false

def VC_rverdict (p : Option Addr) (n : Nat) (c : Nat) (s : ByteArray) (w : World) (R : Ending → World → Prop) : Prop :=
 ∃ (I : List Value → World → Prop),
 ∃ (m : List Value → World → Nat),
 I [Value.int IntKind.i64 0, Value.int IntKind.i64 0] w ∧
 ∀ (x x_1 : Int) (w' : World),
 I [Value.int IntKind.i64 x, Value.int IntKind.i64 x_1] w' →
 bsp (decide (x < (↑n : Int)))
 (nn true p fun (b o : Nat) =>
 (0 ≤ x ∧ x < (↑n : Int)) ∧
 ∃ (x_2 : ByteArray),
 ∃ (p_1 : Option Addr),
 ∃ (n_1 : Nat),
 ∃ (c : Nat),
 AtL w' b (o + x.toNat * 3 + 1) [Value.string x_2, Value.slice p_1 n_1 c] ∧
 CallsS Tryz.prog 69 #[Value.agg #[Value.string x_2, Value.slice p_1 n_1 c], Value.string s] w'
 fun (e : Ending) (w'_1 : World) =>
 ∃ (x_3 : Bool),
 e = Ending.returned (Value.bool x_3) ∧
 bsp x_3
 (nn true p fun (b o : Nat) =>
 (0 ≤ x ∧ x < (↑n : Int)) ∧
 ∃ (x_4 : Int),
 w'_1.cell? (Addr.mk b (o + x.toNat * 3) none) = some (Value.int IntKind.i64 x_4) ∧
 I [Value.int IntKind.i64 (IntKind.i64.wrap (x + 1)), Value.int IntKind.i64 x_4] w'_1 ∧
 m [Value.int IntKind.i64 (IntKind.i64.wrap (x + 1)), Value.int IntKind.i64 x_4] w'_1 <
 m [Value.int IntKind.i64 x, Value.int IntKind.i64 x_1] w')
 (I [Value.int IntKind.i64 (IntKind.i64.wrap (x + 1)), Value.int IntKind.i64 x_1] w'_1 ∧
 m [Value.int IntKind.i64 (IntKind.i64.wrap (x + 1)), Value.int IntKind.i64 x_1] w'_1 <
 m [Value.int IntKind.i64 x, Value.int IntKind.i64 x_1] w'))
 (R (Ending.returned (Value.int IntKind.i64 x_1)) w')
theorem vc_rverdict (p : Option Addr) (n : Nat) (c : Nat) (s : ByteArray) (w : World) (R : Ending → World → Prop) (h : VC_rverdict p n c s w R) : Calls Tryz.prog 47 ([Value.slice
    p n c,
  Value.string s] : List Value).toArray w R := by
  have e : execR { P := Tryz.prog, loops := [(3, [(6, Ck.int IntKind.i64), (5, Ck.int IntKind.i64)])], pur := pur1, tails := [], joins := [], boxes := [] } Tryz.f47.results.toList R (Tryz.f47.body.getD .skip) (initF [Value.slice
    p n c,
  Value.string
    s] (Tryz.f47.ntmps - ([Value.slice p n c,
  Value.string s] : List Value).length)) w = VC_rverdict p n c s w R := by kernel_rfl
  have hb : Tryz.f47.body = some (Tryz.f47.body.getD .skip) := by kernel_rfl
  exact calls_of_exec' (P := Tryz.prog) (fn := Tryz.f47) (c := Tryz.f47.body.getD .skip) (args := [Value.slice p n c,
  Value.string s]) (w := w) (R := R) pur1_ok Tryz.func47 hb e h

def VC_rmatch (t : ByteArray) (p : Option Addr) (n : Nat) (c : Nat) (s : ByteArray) (w : World) (R : Ending → World → Prop) : Prop :=
 ∀ (n_1 : Nat) (w1 : World),
 NewB w (Obj.cells #[Value.string t, Value.slice p n c] 129) n_1 w1 →
 ∃ (I : List Value → World → Prop),
 ∃ (m : List Value → World → Nat),
 I [Value.int IntKind.i64 0] w1 ∧
 ∀ (x : Int) (w' : World),
 I [Value.int IntKind.i64 x] w' →
 bsp (decide (x < (↑s.size : Int)))
 ((0 ≤ x ∧ x < (↑s.size : Int)) ∧
 bsp (!charB (at8 s x.toNat)) (R (Ending.returned (Value.bool false)) w')
 (I [Value.int IntKind.i64 (IntKind.i64.wrap (x + 1))] w' ∧
 m [Value.int IntKind.i64 (IntKind.i64.wrap (x + 1))] w' < m [Value.int IntKind.i64 x] w'))
 ((0 ≤ IntKind.i64.wrap ((↑s.size : Int) + 1) ∧
 IntKind.i64.wrap ((↑s.size : Int) + 1) ≤ IntKind.i64.wrap ((↑s.size : Int) + 1) ∧
 (↑1 : Int) * IntKind.i64.wrap ((↑s.size : Int) + 1) ≤ 281474976710656 ∧
 IntKind.i64.wrap ((↑s.size : Int) + 1) ≤ 9223372036854775807) ∧
 ∀ (n : Nat) (w1 : World),
 NewB w' (Obj.cells (madeCells #[Value.bool false] ((IntKind.i64.wrap ((↑s.size : Int) + 1)).toNat * 1)) 4) n
 w1 →
 ((0 : Int) ≤ 0 ∧ 0 < (↑(IntKind.i64.wrap ((↑s.size : Int) + 1)).toNat : Int)) ∧
 ((∃ (u : Value), w1.cell? (Addr.mk n 0 none) = some u) ∧ w1.frozen? (Addr.mk n 0 none) = false) ∧
 ∀ (w1_1 : World),
 PutB w1 n 0 [Value.bool true] w1_1 →
 ∃ (I : List Value → World → Prop),
 ∃ (m : List Value → World → Nat),
 I
 [Value.slice (some (Addr.mk n 0 none)) (IntKind.i64.wrap ((↑s.size : Int) + 1)).toNat
 (IntKind.i64.wrap ((↑s.size : Int) + 1)).toNat,
 Value.int IntKind.i64 0]
 w1_1 ∧
 ∀ (p : Option Addr) (n c : Nat) (x : Int) (w' : World),
 I [Value.slice p n c, Value.int IntKind.i64 x] w' →
 ∃ (p_1 : Option Addr),
 ∃ (n_2 : Nat),
 ∃ (c_1 : Nat),
 w'.cell? (Addr.mk n_1 (0 + 1) none) = some (Value.slice p_1 n_2 c_1) ∧
 bsp (decide (x < (↑n_2 : Int)))
 ((0 ≤ IntKind.i64.wrap ((↑s.size : Int) + 1) ∧
 IntKind.i64.wrap ((↑s.size : Int) + 1) ≤ IntKind.i64.wrap ((↑s.size : Int) + 1) ∧
 (↑1 : Int) * IntKind.i64.wrap ((↑s.size : Int) + 1) ≤ 281474976710656 ∧
 IntKind.i64.wrap ((↑s.size : Int) + 1) ≤ 9223372036854775807) ∧
 ∀ (n_3 : Nat) (w1 : World),
 NewB w'
 (Obj.cells
 (madeCells #[Value.bool false] ((IntKind.i64.wrap ((↑s.size : Int) + 1)).toNat * 1)) 4)
 n_3 w1 →
 ∃ (I_1 : List Value → World → Prop),
 ∃ (m_1 : List Value → World → Nat),
 I_1 [Value.int IntKind.i64 0] w1 ∧
 ∀ (x_1 : Int) (w'_1 : World),
 I_1 [Value.int IntKind.i64 x_1] w'_1 →
 bsp (decide (x_1 ≤ (↑s.size : Int)))
 (∃ (p_2 : Option Addr),
 ∃ (n_4 : Nat),
 ∃ (c : Nat),
 w'_1.cell? (Addr.mk n_1 (0 + 1) none) = some (Value.slice p_2 n_4 c) ∧
 nn true p_2 fun (b o : Nat) =>
 (0 ≤ x ∧ x < (↑n_4 : Int)) ∧
 ∃ (x_2 : Bool),
 w'_1.cell? (Addr.mk b (o + x.toNat * 129) none) = some (Value.bool x_2) ∧
 bsp x_2
 (nn true p fun (b o : Nat) =>
 (0 ≤ x_1 ∧ x_1 < (↑n : Int)) ∧
 ∃ (x : Bool),
 w'_1.cell? (Addr.mk b (o + x_1.toNat) none) = some (Value.bool x) ∧
 gimp (!x && decide (x_1 > 0))
 (0 ≤ IntKind.i64.wrap (x_1 - 1) ∧
 IntKind.i64.wrap (x_1 - 1) <
 (↑(IntKind.i64.wrap ((↑s.size : Int) + 1)).toNat : Int)) ∧
 ∃ (x_3 : Bool),
 gimp (!x && decide (x_1 > 0))
 (w'_1.cell?
 (Addr.mk n_3 (0 + (IntKind.i64.wrap (x_1 - 1)).toNat) none) =
 some (Value.bool x_3)) ∧
 (0 ≤ x_1 ∧
 x_1 < (↑(IntKind.i64.wrap ((↑s.size : Int) + 1)).toNat : Int)) ∧
 ((∃ (u : Value),
 w'_1.cell? (Addr.mk n_3 (0 + x_1.toNat) none) = some u) ∧
 w'_1.frozen? (Addr.mk n_3 (0 + x_1.toNat) none) = false) ∧
 ∀ (w1 : World),
 PutB w'_1 n_3 (0 + x_1.toNat)
 [Value.bool (x || decide (x_1 > 0) && x_3)] w1 →
 I_1 [Value.int IntKind.i64 (IntKind.i64.wrap (x_1 + 1))] w1 ∧
 m_1 [Value.int IntKind.i64 (IntKind.i64.wrap (x_1 + 1))] w1 <
 m_1 [Value.int IntKind.i64 x_1] w'_1)
 (bsp (decide (x_1 > 0))
 (nn true p fun (b o : Nat) =>
 (0 ≤ IntKind.i64.wrap (x_1 - 1) ∧
 IntKind.i64.wrap (x_1 - 1) < (↑n : Int)) ∧
 ∃ (x_3 : Bool),
 w'_1.drew.cell?
 (Addr.mk b (o + (IntKind.i64.wrap (x_1 - 1)).toNat) none) =
 some (Value.bool x_3) ∧
 ∃ (p : Option Addr),
 ∃ (n : Nat),
 ∃ (c : Nat),
 gimp x_3
 (w'_1.drew.cell? (Addr.mk n_1 (0 + 1) none) =
 some (Value.slice p n c)) ∧
 gimp x_3
 (0 ≤ IntKind.i64.wrap (x_1 - 1) ∧
 IntKind.i64.wrap (x_1 - 1) < (↑s.size : Int)) ∧
 nn x_3 p fun (b o : Nat) =>
 gimp x_3 (0 ≤ x ∧ x < (↑n : Int)) ∧
 gimp x_3
 (0 ≤ at8 s (IntKind.i64.wrap (x_1 - 1)).toNat ∧
 at8 s (IntKind.i64.wrap (x_1 - 1)).toNat < (↑128 : Int)) ∧
 ∃ (x_4 : Bool),
 gimp x_3
 (w'_1.drew.cell?
 (Addr.mk b
 (o + x.toNat * 129 + 1 +
 (at8 s (IntKind.i64.wrap (x_1 - 1)).toNat).toNat)
 none) =
 some (Value.bool x_4)) ∧
 (0 ≤ x_1 ∧
 x_1 <
 (↑(IntKind.i64.wrap ((↑s.size : Int) + 1)).toNat : Int)) ∧
 ((∃ (u : Value),
 w'_1.drew.cell? (Addr.mk n_3 (0 + x_1.toNat) none) =
 some u) ∧
 w'_1.drew.frozen? (Addr.mk n_3 (0 + x_1.toNat) none) =
 false) ∧
 ∀ (w1 : World),
 PutB w'_1.drew n_3 (0 + x_1.toNat)
 [Value.bool (x_3 && x_4)] w1 →
 I_1 [Value.int IntKind.i64 (IntKind.i64.wrap (x_1 + 1))]
 w1 ∧
 m_1 [Value.int IntKind.i64 (IntKind.i64.wrap (x_1 + 1))]
 w1 <
 m_1 [Value.int IntKind.i64 x_1] w'_1)
 (I_1 [Value.int IntKind.i64 (IntKind.i64.wrap (x_1 + 1))] w'_1 ∧
 m_1 [Value.int IntKind.i64 (IntKind.i64.wrap (x_1 + 1))] w'_1 <
 m_1 [Value.int IntKind.i64 x_1] w'_1)))
 (I
 [Value.slice (some (Addr.mk n_3 0 none))
 (IntKind.i64.wrap ((↑s.size : Int) + 1)).toNat
 (IntKind.i64.wrap ((↑s.size : Int) + 1)).toNat,
 Value.int IntKind.i64 (IntKind.i64.wrap (x + 1))]
 w'_1 ∧
 m
 [Value.slice (some (Addr.mk n_3 0 none))
 (IntKind.i64.wrap ((↑s.size : Int) + 1)).toNat
 (IntKind.i64.wrap ((↑s.size : Int) + 1)).toNat,
 Value.int IntKind.i64 (IntKind.i64.wrap (x + 1))]
 w'_1 <
 m [Value.slice p n c, Value.int IntKind.i64 x] w'))
 (nn true p fun (b o : Nat) =>
 (0 ≤ (↑s.size : Int) ∧ (↑s.size : Int) < (↑n : Int)) ∧
 ∃ (x : Bool),
 w'.cell? (Addr.mk b (o + (↑s.size : Int).toNat) none) = some (Value.bool x) ∧
 R (Ending.returned (Value.bool x)) w'))
theorem vc_rmatch (t : ByteArray) (p : Option Addr) (n : Nat) (c : Nat) (s : ByteArray) (w : World) (R : Ending → World → Prop) (h : VC_rmatch t p n c s w R) : Calls Tryz.prog 69 ([Value.agg
    #[Value.string t, Value.slice p n c],
  Value.string s] : List Value).toArray w R := by
  have e : execR { P := Tryz.prog, loops := [(2, [(5, Ck.int IntKind.i64)]), (9, [(6, Ck.slice), (7, Ck.int IntKind.i64)]), (13, [(9, Ck.int IntKind.i64)])], pur := pur1, tails := [(18, 21)], joins := [], boxes := [] } Tryz.f69.results.toList R (Tryz.f69.body.getD .skip) (initF [Value.agg
    #[Value.string t, Value.slice p n c],
  Value.string
    s] (Tryz.f69.ntmps - ([Value.agg #[Value.string t, Value.slice p n c],
  Value.string s] : List Value).length)) w = VC_rmatch t p n c s w R := by kernel_rfl
  have hb : Tryz.f69.body = some (Tryz.f69.body.getD .skip) := by kernel_rfl
  exact calls_of_exec' (P := Tryz.prog) (fn := Tryz.f69) (c := Tryz.f69.body.getD .skip) (args := [Value.agg
    #[Value.string t, Value.slice p n c],
  Value.string s]) (w := w) (R := R) pur1_ok Tryz.func69 hb e h

end Go.Proofs.YtkkfnlehlkiejaaGreatDoor

/- The contracts of the reference's Match, Verdict and Selects. Names have at most 2^47 bytes. -/
namespace Go.Proofs.YtkkfnlehlkiejaaGreatDoor
open Go.RowKit

theorem rows_star {rs : List RE} {k : Nat} {r : RE} (h : rs[k]? = some r) : (rows rs)[k * 129]? = some (.bool r.star) := by
  have := flat_get (fun r : RE => reL r.star r.set) 129 rs k r 0 (fun y _ => reL_length _ _) h (by decide)
  exact this
theorem rows_set {rs : List RE} {k : Nat} {r : RE} (h : rs[k]? = some r) {c : Nat} (hc : c < 128) : (rows rs)[k * 129 + 1 + c]? = some (.bool (r.set c)) := by
  have := flat_get (fun r : RE => reL r.star r.set) 129 rs k r (1 + c) (fun y _ => reL_length _ _) h (by omega)
  rw [← Nat.add_assoc] at this
  unfold rows
  rw [this]
  show (Value.bool r.star :: arrBo r.set 128 0)[1 + c]? = _
  rw [Nat.add_comm 1 c, List.getElem?_cons_succ, arrBo_get _ _ _ _ hc, Nat.zero_add]

set_option maxHeartbeats 1000000 in
theorem rmatch_any (t : ByteArray) (p : Option Addr) (c : Nat) (rs : List RE) (s : ByteArray) (w : World) {base : Nat} (ho : w.ownsRow base 160 129 (.slice p rs.length c) rs.length (rows rs)) (hs : s.size ≤ 140737488355328) (hl : rs.length ≤ 1048576) :
    Calls Tryz.prog 69 #[.agg #[.string t, .slice p rs.length c], .string s] w fun e w' => e = .returned (.bool (rmatchB rs s)) ∧ K0 w w' := by
  refine vc_rmatch t p rs.length c s w _ ?_
  have eW : IntKind.i64.wrap ((s.size : Int) + 1) = ((s.size + 1 : Nat) : Int) := by rw [wr64 (by omega) (by omega)]; omega
  unfold VC_rmatch
  simp only [eW, Int.toNat_natCast]
  intro n1 w1 hn
  have k1 : K0 w w1 := hn.kp _
  refine count1 s.size (by omega) (fun k w' => (∀ j, j < k → charB (at8 s j) = true) ∧ w' = w1) ⟨fun j hj => by omega, rfl⟩ ?_
  rintro I m k w' hk ⟨hch, rfl⟩ next
  refine bsp_intro (fun hlt => ?_) (fun hge => ?_)
  · have hlt : k < s.size := by simpa using hlt
    rw [Int.toNat_natCast]
    refine ⟨by omega, bsp_intro (fun hc => ?_) (fun hc => next hlt w' ⟨fun j hj => ?_, rfl⟩)⟩
    · refine ⟨?_, k1⟩
      have : (List.range s.size).all (fun i => charB (at8 s i)) = false := by
        rw [List.all_eq_false]
        exact ⟨k, List.mem_range.2 hlt, by simpa using hc⟩
      unfold rmatchB
      rw [this]; rfl
    · by_cases e : j = k
      · subst e; simpa using hc
      · exact hch j (by omega)
  have hge : k = s.size := by simp at hge; omega
  subst hge
  have hall : (List.range s.size).all (fun i => charB (at8 s i)) = true := by
    rw [List.all_eq_true]
    exact fun j hj => hch j (List.mem_range.1 hj)
  have hR : rmatchB rs s = pmF (rS rs) (fun i k => rS rs i || rH rs i (at8 s k).toNat) rs.length s.size := by unfold rmatchB; rw [hall, Bool.true_and]
  rw [hR]
  generalize hh : (fun i k => rS rs i || rH rs i (at8 s k).toNat) = h
  generalize hst : rS rs = st
  refine ⟨by omega, fun g0 w2 hn2 => ⟨⟨by omega, by omega⟩, ?_⟩⟩
  have b2 := hn2.block
  rw [bools_made] at b2
  refine ⟨cell_wr b2 (by rw [bools_size]; omega), fun w3 hp3 => ?_⟩
  have b3 : w3.heap[g0]? = some (.cells (bools (pmF st h 0) (s.size + 1)) 4 (0, 0)) := by
    rw [hp3.block b2]
    congr 2
    apply bools_put
    intro j _
    by_cases e : j = 0
    · subst e; rfl
    · rw [if_neg e]; simp [pmF, e]
  have g0n : n1 < g0 := by have := hn.size; have := hn2.ge; omega
  have k3 : K0 w' w3 := (hn2.kp (fun _ => False)).fresh hp3.kp (fun i hi e => by have := hn2.ge; omega)
  have c1 : ∀ wx, K0 w' wx → wx.cell? ⟨n1, 0 + 1, none⟩ = some (.slice p rs.length c) := fun wx hk => cell_at (hk.blk hn.block (fun h => h)) rfl
  refine ⟨fun vs wx => ∃ (g k : Nat), vs = [.slice (some ⟨g, 0, none⟩) (s.size + 1) (s.size + 1), .int .i64 (k : Int)] ∧ k ≤ rs.length ∧ wx.heap[g]? = some (.cells (bools (pmF st h k) (s.size + 1)) 4 (0, 0)) ∧ K0 w' wx,
    fun vs _ => (match vs with | [_, .int _ x] => rs.length - x.toNat | _ => 0), ⟨g0, 0, rfl, by omega, b3, k3⟩, ?_⟩
  rintro p1 n_ c_ x w4 ⟨g, k, hv, hk, b4, k4⟩
  simp only [List.cons.injEq, Value.int.injEq, Value.slice.injEq, true_and, and_true] at hv
  obtain ⟨⟨rfl, rfl, rfl⟩, rfl⟩ := hv
  refine ⟨p, rs.length, c, c1 w4 k4, bsp_intro (fun hlt => ?_) (fun hge => ?_)⟩
  · have hlt : k < rs.length := by simpa using hlt
    obtain ⟨r, hr⟩ : ∃ r, rs[k]? = some r := ⟨_, List.getElem?_eq_getElem hlt⟩
    have hstk : st k = r.star := by rw [← hst]; simp [rS, hr]
    have hhk : ∀ i, h k i = (r.star || r.set (at8 s i).toNat) := fun i => by rw [← hh]; simp [rS, rH, hr]
    refine ⟨by omega, fun n3 w5 hn5 => ?_⟩
    have b5 := hn5.block
    rw [bools_made] at b5
    have g3 : w4.heap.size ≤ n3 := hn5.ge
    have glt : g < w4.heap.size := block_lt b4
    have b45 := (hn5.kp (fun _ => False)).blk b4 (fun h => h)
    have k5 : K0 w' w5 := k4.trans (hn5.kp _)
    refine count1 (s.size + 1) (by omega) (fun i wx => wx.heap[n3]? = some (.cells (bools (fun j => decide (j < i) && pmF st h (k + 1) j) (s.size + 1)) 4 (0, 0)) ∧ Kp (· = n3) w5 wx) ⟨?_, .refl _ _⟩ ?_
    · rw [b5]
      congr 2
      first | done | (apply bools_congr; intro j _; simp)
    rintro I1 m1 i w6 hi ⟨b6, k6⟩ next
    have b46 := k6.blk b45 (fun e => by omega)
    have k6' : K0 w' w6 := k5.fresh k6 (fun i hi e => by have := k4.size; omega)
    refine bsp_intro (fun hle => ?_) (fun hgt => ?_)
    · have hle : i < s.size + 1 := by simp at hle; omega
      have ho6 := owns_kp (owns_kp ho k1 (fun _ _ h => h)) k6' (fun _ _ h => h)
      obtain ⟨ge, rfl, hcs⟩ := own_cellL ho6 (rows_star hr)
      refine ⟨_, rs.length, c, c1 w6 k6', ?_⟩
      show (0 ≤ (k : Int) ∧ (k : Int) < (rs.length : Int)) ∧ _
      rw [Int.toNat_natCast]
      refine ⟨by omega, r.star, by rw [Nat.zero_add]; exact hcs, ?_⟩
      have fin : ∀ (wz : World) (v : Bool), Kp (· = n3) w5 wz → wz.heap[n3]? = some (.cells (bools (fun j => decide (j < i) && pmF st h (k + 1) j) (s.size + 1)) 4 (0, 0)) → v = pmF st h (k + 1) i → ∀ wy, PutB wz n3 (0 + i) [.bool v] wy → wy.heap[n3]? = some (.cells (bools (fun j => decide (j < i + 1) && pmF st h (k + 1) j) (s.size + 1)) 4 (0, 0)) ∧ Kp (· = n3) w5 wy := fun wz v hkz hbz hv wy hp => by
        refine ⟨?_, hkz.trans hp.kp⟩
        have := hp.block hbz
        rw [Nat.zero_add] at this
        rw [this]
        congr 2
        apply bools_put
        intro j _
        by_cases e : j = i
        · subst e; rw [if_pos rfl, hv]; simp
        · rw [if_neg e]
          have : decide (j < i + 1) = decide (j < i) := by rw [decide_eq_decide]; omega
          rw [this]
      have e1 : 0 < i → IntKind.i64.wrap ((i : Int) - 1) = ((i - 1 : Nat) : Int) := fun h0 => by rw [wr64 (by omega) (by omega)]; omega
      refine bsp_intro (fun hs1 => ?_) (fun hs0 => bsp_intro (fun h0 => ?_) (fun h0 => ?_))
      · show (0 ≤ (i : Int) ∧ (i : Int) < ((s.size + 1 : Nat) : Int)) ∧ _
        rw [Int.toNat_natCast]
        refine ⟨by omega, pmF st h k i, by rw [Nat.zero_add]; exact cell_at b46 (bools_get _ _ _ (by omega)), gimp_intro fun hg => ?_, ?_⟩
        · have h0 : 0 < i := by simp at hg; omega
          rw [e1 h0]; omega
        refine ⟨pmF st h (k + 1) (i - 1), gimp_intro fun hg => ?_, by omega, cell_wr b6 (by rw [bools_size]; omega), fun wy hp => next hle wy (fin w6 _ k6 b6 ?_ wy hp)⟩
        · have h0 : 0 < i := by simp at hg; omega
          rw [e1 h0, Int.toNat_natCast, Nat.zero_add]
          refine cell_at b6 ?_
          rw [bools_get _ _ _ (by omega)]
          have : decide (i - 1 < i) = true := by simp; omega
          rw [this, Bool.true_and]
        · cases i with
          | zero => rw [pmF_zero, hstk, hs1]; simp
          | succ i =>
            rw [pmF_succ, hstk, if_pos hs1, hhk, hs1]
            have : decide (((i + 1 : Nat) : Int) > 0) = true := decide_eq_true (by omega)
            rw [this]
            simp
      · have h0 : 0 < i := by simp at h0; omega
        rw [e1 h0, Int.toNat_natCast, Int.toNat_natCast]
        obtain ⟨j, rfl⟩ : ∃ j, i = j + 1 := ⟨i - 1, by omega⟩
        rw [Nat.add_sub_cancel]
        have hcb := charB_lt (hch j (by omega))
        obtain ⟨ge', hge', hcc⟩ := own_cellL ho6 (rows_set hr (c := (at8 s j).toNat) (by omega))
        simp only [Option.some.injEq, Addr.mk.injEq, and_true] at hge'
        subst hge'
        show (0 ≤ (j : Int) ∧ (j : Int) < ((s.size + 1 : Nat) : Int)) ∧ _
        refine ⟨by omega, pmF st h k j, by rw [Nat.zero_add]; exact cell_at (blk_drew b46) (bools_get _ _ _ (by omega)), some ⟨ge, 0, none⟩, rs.length, c, gimp_intro fun _ => c1 w6.drew k6'.drew, gimp_intro fun _ => by omega, ?_⟩
        show gimp _ _ ∧ _
        refine ⟨gimp_intro fun _ => by omega, gimp_intro fun _ => by omega, r.set (at8 s j).toNat, gimp_intro fun _ => by rw [Nat.zero_add]; exact hcc, by omega, cell_wr (blk_drew b6) (by rw [bools_size]; omega), fun wy hp => next hle wy (fin w6.drew _ k6.drew (blk_drew b6) ?_ wy hp)⟩
        rw [pmF_succ, hstk, if_neg (by rw [hs0]; decide), hhk, hs0, Bool.false_or, Bool.and_comm]
      · have h0 : i = 0 := by simp at h0; omega
        subst h0
        refine next hle w6 ⟨?_, k6⟩
        rw [b6]
        congr 2
        apply bools_congr
        intro j _
        by_cases e : j = 0
        · subst e
          rw [pmF_zero, hstk, hs0]; simp
        · have h1 : decide (j < 0 + 1) = false := decide_eq_false (by omega)
          have h2 : decide (j < 0) = false := decide_eq_false (by omega)
          rw [h1, h2]
    · have hgt : i = s.size + 1 := by simp at hgt; omega
      subst hgt
      have f1 : IntKind.i64.wrap ((k : Int) + 1) = ((k + 1 : Nat) : Int) := by rw [wr64 (by omega) (by omega)]; omega
      rw [f1]
      refine ⟨⟨n3, k + 1, rfl, by omega, ?_, k6'⟩, by simp only [Int.toNat_natCast]; omega⟩
      rw [b6]
      congr 2
      apply bools_congr
      intro j hj
      simp [hj]
  · have hge : k = rs.length := by simp at hge; omega
    subst hge
    show (0 ≤ (s.size : Int) ∧ (s.size : Int) < ((s.size + 1 : Nat) : Int)) ∧ _
    refine ⟨by omega, _, by rw [Nat.zero_add]; exact cell_at b4 (bools_get _ _ _ (by omega)), rfl, k1.trans k4⟩

theorem ritC_length (x : RItA) : (ritC x).length = 3 := rfl
theorem RLst.cell {base : Nat} {w : World} {p : Option Addr} {n c : Nat} {L : List RItA} (h : RLst base w p n c L) {k : Nat} {x : RItA} (hk : L[k]? = some x) {j : Nat} {v : Value} (hj : (ritC x)[j]? = some v) : ∃ g, p = some ⟨g, 0, none⟩ ∧ w.cell? ⟨g, k * 3 + j, none⟩ = some v := by
  refine own_cellL h.row ?_
  have : j < 3 := by rw [← ritC_length x]; exact (List.getElem?_eq_some_iff.1 hj).1
  rw [flat_get ritC 3 L k x j (fun y _ => ritC_length y) hk this]
  exact hj
set_option maxHeartbeats 1000000 in
theorem rverdict_any {base : Nat} {w : World} {p : Option Addr} {n c : Nat} {L : List RItA} (h : RLst base w p n c L) (s : ByteArray) (hs : s.size ≤ 140737488355328) (hl : L.length ≤ 64) (hr : ∀ x ∈ L, x.1.rs.length ≤ 80) :
    Calls Tryz.prog 47 #[.slice p n c, .string s] w fun e w' => e = .returned (.int .i64 (rverd (L.map (·.1)) s)) ∧ K0 w w' := by
  refine vc_rverdict p n c s w _ ?_
  refine ⟨fun vs w' => ∃ k : Nat, vs = [.int .i64 (k : Int), .int .i64 (rverd ((L.take k).map (·.1)) s)] ∧ k ≤ L.length ∧ K0 w w', fun vs _ => (match vs with | .int _ x :: _ => L.length - x.toNat | _ => 0), ⟨0, rfl, by omega, .refl _ _⟩, ?_⟩
  rintro x x1 w2 ⟨k, hv, hk, hk2⟩
  simp only [List.cons.injEq, Value.int.injEq, true_and, and_true] at hv
  obtain ⟨rfl, rfl⟩ := hv
  have hn := h.len
  refine bsp_intro (fun hlt => ?_) (fun hge => ?_)
  · have hlt : k < L.length := by simp at hlt; omega
    obtain ⟨y, hy⟩ : ∃ y, L[k]? = some y := ⟨_, List.getElem?_eq_getElem hlt⟩
    have htk : (L.take (k + 1)).map (·.1) = (L.take k).map (·.1) ++ [y.1] := by rw [List.take_add_one, hy, List.map_append]; rfl
    have h2 := h.kp hk2
    obtain ⟨g, rfl, c1⟩ := h2.cell hy (j := 1) rfl
    obtain ⟨g', e', c2⟩ := h2.cell hy (j := 2) rfl
    simp only [Option.some.injEq, Addr.mk.injEq, and_true] at e'
    subst e'
    show (0 ≤ (k : Int) ∧ (k : Int) < (n : Int)) ∧ _
    rw [Int.toNat_natCast]
    refine ⟨by omega, y.1.t, y.2.1, y.1.rs.length, y.2.2, ⟨At_of _ _ fun j v hj => ?_⟩, ⟨(rmatch_any y.1.t y.2.1 y.2.2 y.1.rs s w2 (h2.els y (List.mem_of_getElem? hy)) hs (by have := hr y (List.mem_of_getElem? hy); omega)).mono fun e w3 ⟨he, hk3⟩ => ⟨_, he, ?_⟩⟩⟩
    · match j, hj with
      | 0, hj => simp at hj; subst hj; rw [Nat.zero_add, Nat.add_zero]; exact c1
      | 1, hj => simp at hj; subst hj; rw [Nat.zero_add]; exact c2
    have h3 := h2.kp hk3
    have f1 : IntKind.i64.wrap ((k : Int) + 1) = ((k + 1 : Nat) : Int) := by rw [wr64 (by omega) (by omega)]; omega
    rw [f1]
    have hsn : rverd ((L.take (k + 1)).map (·.1)) s = if rmatchB y.1.rs s = true then y.1.v else rverd ((L.take k).map (·.1)) s := by rw [htk]; simp [rverd]
    refine bsp_intro (fun hm => ?_) (fun hm => ⟨⟨k + 1, ?_, by omega, hk2.trans hk3⟩, by simp only [Int.toNat_natCast]; omega⟩)
    · obtain ⟨g', e', c0⟩ := h3.cell hy (j := 0) rfl
      simp only [Option.some.injEq, Addr.mk.injEq, and_true] at e'
      subst e'
      show (0 ≤ (k : Int) ∧ (k : Int) < (n : Int)) ∧ _
      refine ⟨by omega, y.1.v, by rw [Nat.zero_add]; exact c0, ⟨k + 1, ?_, by omega, hk2.trans hk3⟩, by simp only [Int.toNat_natCast]; omega⟩
      rw [hsn, if_pos hm]
    · rw [hsn, if_neg (by rw [hm]; decide)]
  · have : k = L.length := by simp at hge; omega
    subst this
    rw [List.take_length]
    exact ⟨rfl, hk2⟩

end Go.Proofs.YtkkfnlehlkiejaaGreatDoor

/- The formulas of functions by the symbolic evaluator, and that each gives the call's contract. Written by a program (gen.py). No condition. -/
namespace Go.Proofs.YtkkfnlehlkiejaaGreatDoor
set_option maxRecDepth 100000
set_option linter.unusedVariables false

def VC_xcheck (id : Nat → Int) (au : Nat → Int) (g : ByteArray) (v : Int) (rm : Bool) (md : Bool) (p : Option Addr) (n : Nat) (c : Nat) (t : ByteArray) (w : World) (R : Ending → World → Prop) : Prop :=
 ∀ (n_1 : Nat) (W : World),
 Loc w.heap.size
 [Blk.mk n_1 50
 (arrI IntKind.u8 id 32 0 ++ (arrI IntKind.u8 au 16 0 ++ [Value.string g,
 Value.int IntKind.i64 v, Value.bool rm, Value.bool md, Value.slice p n c, Value.string t]))
 2]
 w W →
 CallsS Tryz.prog 55 #[Value.string g] W fun (e : Ending) (w' : World) =>
 ∃ (x : Int),
 e = Ending.returned (Value.int IntKind.i64 x) ∧
 KeptL [n_1] W w' ∧
 bsp (x != 0) (R (Ending.returned (Value.int IntKind.i64 x)) w')
 (∃ (x : Int),
 gimp (!decide (v < 0)) (w'.cell? (Addr.mk n_1 (0 + 49) none) = some (Value.int IntKind.i64 x)) ∧
 bsp (decide (v < 0) || decide (x > 1000000)) (R (Ending.returned (Value.int IntKind.i64 2)) w')
 (∃ (x : Bool),
 gimp rm (w'.cell? (Addr.mk n_1 (0 + 51) none) = some (Value.bool x)) ∧
 ∃ (p_1 : Option Addr),
 ∃ (n_2 : Nat),
 ∃ (c_1 : Nat),
 gimp (rm && !x) (w'.cell? (Addr.mk n_1 (0 + 52) none) = some (Value.slice p_1 n_2 c_1)) ∧
 ∃ (x_1 : ByteArray),
 gimp (rm && !(x || decide ((↑n_2 : Int) > 0)))
 (w'.cell? (Addr.mk n_1 (0 + 53) none) = some (Value.string x_1)) ∧
 bsp (rm && (x || decide ((↑n_2 : Int) > 0) || !x_1.toList == []))
 (R (Ending.returned (Value.int IntKind.i64 3)) w')
 (bsp (decide ((↑n : Int) > 8)) (R (Ending.returned (Value.int IntKind.i64 9)) w')
 (∃ (I : List Value → World → Prop),
 ∃ (m : List Value → World → Nat),
 I [Value.int IntKind.i64 0] w' ∧
 ∀ (x : Int) (w' : World),
 I [Value.int IntKind.i64 x] w' →
 Loc w.heap.size
 [Blk.mk n_1 50
 (arrI IntKind.u8 id 32 0 ++ (arrI IntKind.u8 au 16 0 ++ [Value.string g, Value.int IntKind.i64 v, Value.bool rm, Value.bool md, Value.slice p n c,
 Value.string t]))
 0]
 w' w' →
 bsp (decide (x < (↑n : Int)))
 (∃ (I_1 : List Value → World → Prop),
 ∃ (m_1 : List Value → World → Nat),
 I_1 [Value.int IntKind.i64 0] w' ∧
 ∀ (x_2 : Int) (w'_1 : World),
 I_1 [Value.int IntKind.i64 x_2] w'_1 →
 Loc w.heap.size
 [Blk.mk n_1 50
 (arrI IntKind.u8 id 32 0 ++ (arrI IntKind.u8 au 16 0 ++ [Value.string g,
 Value.int IntKind.i64 v, Value.bool rm, Value.bool md, Value.slice p n c,
 Value.string t]))
 0]
 w'_1 w'_1 →
 bsp (decide (x_2 < x))
 (nn true p fun (b o : Nat) =>
 (0 ≤ x_2 ∧ x_2 < (↑n : Int)) ∧
 ∃ (f : Nat → Int),
 (∀ (W : World),
 Loc w.heap.size
 [Blk.mk n_1 50
 (arrI IntKind.u8 id 32 0 ++ (arrI IntKind.u8 au 16 0 ++ [Value.string g,
 Value.int IntKind.i64 v, Value.bool rm, Value.bool md, Value.slice p n c,
 Value.string t]))
 0]
 w'_1 W →
 AtL W b (o + x_2.toNat * 16)
 (arrI IntKind.u8 f 16 0)) ∧
 nn true p fun (b o : Nat) =>
 (0 ≤ x ∧ x < (↑n : Int)) ∧
 ∃ (f_1 : Nat → Int),
 (∀ (W : World),
 Loc w.heap.size
 [Blk.mk n_1 50
 (arrI IntKind.u8 id 32 0 ++ (arrI IntKind.u8 au 16 0 ++ [Value.string g, Value.int IntKind.i64 v, Value.bool rm, Value.bool md,
 Value.slice p n c, Value.string t]))
 0]
 w'_1 W →
 AtL W b (o + x.toNat * 16)
 (arrI IntKind.u8 f_1 16 0)) ∧
 ∃ (r : Bool),
 EqP Tryz.prog 23
 (Value.agg
 (arrI IntKind.u8 f 16 0).toArray)
 (Value.agg
 (arrI IntKind.u8 f_1 16 0).toArray)
 r ∧
 bsp r
 (∀ (W : World),
 Loc w.heap.size
 [Blk.mk n_1 50
 (arrI IntKind.u8 id 32 0 ++ (arrI IntKind.u8 au 16 0 ++ [Value.string g, Value.int IntKind.i64 v, Value.bool rm,
 Value.bool md, Value.slice p n c, Value.string t]))
 0]
 w'_1 W →
 R (Ending.returned (Value.int IntKind.i64 7)) W)
 (∀ (W : World),
 Loc w.heap.size
 [Blk.mk n_1 50
 (arrI IntKind.u8 id 32 0 ++ (arrI IntKind.u8 au 16 0 ++ [Value.string g, Value.int IntKind.i64 v, Value.bool rm,
 Value.bool md, Value.slice p n c, Value.string t]))
 0]
 w'_1 W →
 I_1 [Value.int IntKind.i64 (IntKind.i64.wrap (x_2 + 1))] W ∧
 m_1 [Value.int IntKind.i64 (IntKind.i64.wrap (x_2 + 1))] W <
 m_1 [Value.int IntKind.i64 x_2] w'_1))
 (I [Value.int IntKind.i64 (IntKind.i64.wrap (x + 1))] w'_1 ∧
 m [Value.int IntKind.i64 (IntKind.i64.wrap (x + 1))] w'_1 <
 m [Value.int IntKind.i64 x] w'))
 (bsp (decide ((↑t.size : Int) > 200)) (R (Ending.returned (Value.int IntKind.i64 5)) w')
 (R (Ending.returned (Value.int IntKind.i64 0)) w'))))))
theorem vc_xcheck (id : Nat → Int) (au : Nat → Int) (g : ByteArray) (v : Int) (rm : Bool) (md : Bool) (p : Option Addr) (n : Nat) (c : Nat) (t : ByteArray) (w : World) (R : Ending → World → Prop) (h : VC_xcheck id au g v rm md p n c t w R) : Calls Tryz.prog 25 ([Value.agg
    (arrI IntKind.u8 id 32 0 ++
        (arrI IntKind.u8 au 16 0 ++
          [Value.string g, Value.int IntKind.i64 v, Value.bool rm, Value.bool md, Value.slice p n c,
            Value.string t])).toArray] : List Value).toArray w R := by
  have e : execR2 { P := Tryz.prog, loops := [(11, [(4, Ck.int IntKind.i64)]), (14, [(5, Ck.int IntKind.i64)])], pur := pur1, tails := [], joins := [], boxes := [] } Tryz.f25.results.toList R (Tryz.f25.body.getD .skip) (initF [Value.agg
    (arrI IntKind.u8 id 32 0 ++
        (arrI IntKind.u8 au 16 0 ++
          [Value.string g, Value.int IntKind.i64 v, Value.bool rm, Value.bool md, Value.slice p n c,
            Value.string
              t])).toArray] (Tryz.f25.ntmps - ([Value.agg
    (arrI IntKind.u8 id 32 0 ++
        (arrI IntKind.u8 au 16 0 ++
          [Value.string g, Value.int IntKind.i64 v, Value.bool rm, Value.bool md, Value.slice p n c,
            Value.string t])).toArray] : List Value).length)) w = VC_xcheck id au g v rm md p n c t w R := by kernel_rfl
  have hb : Tryz.f25.body = some (Tryz.f25.body.getD .skip) := by kernel_rfl
  exact calls_of_exec2' (P := Tryz.prog) (fn := Tryz.f25) (c := Tryz.f25.body.getD .skip) (args := [Value.agg
    (arrI IntKind.u8 id 32 0 ++
        (arrI IntKind.u8 au 16 0 ++
          [Value.string g, Value.int IntKind.i64 v, Value.bool rm, Value.bool md, Value.slice p n c,
            Value.string t])).toArray]) (w := w) (R := R) pur1_ok Tryz.func25 hb e h

def VC_xsame (id : Nat → Int) (au : Nat → Int) (g : ByteArray) (v : Int) (rm : Bool) (md : Bool) (p : Option Addr) (n : Nat) (c : Nat) (t : ByteArray) (id2 : Nat → Int) (au2 : Nat → Int) (g2 : ByteArray) (v2 : Int) (rm2 : Bool) (md2 : Bool) (p2 : Option Addr) (n2 : Nat) (c2 : Nat) (t2 : ByteArray) (w : World) (R : Ending → World → Prop) : Prop :=
 ∀ (n_1 n_2 : Nat),
 ∃ (r : Bool),
 EqP Tryz.prog 47
 (Value.agg
 (arrI IntKind.u8 id 32 0).toArray)
 (Value.agg
 (arrI IntKind.u8 id2 32 0).toArray)
 r ∧
 ∃ (f : Nat → Int),
 gimp (!!r)
 (∀ (W : World),
 Loc w.heap.size
 [Blk.mk n_2 50
 (arrI IntKind.u8 id2 32 0 ++ (arrI IntKind.u8 au2 16 0 ++ [Value.string g2, Value.int IntKind.i64 v2, Value.bool rm2, Value.bool md2, Value.slice p2 n2 c2,
 Value.string t2]))
 2,
 Blk.mk n_1 50
 (arrI IntKind.u8 id 32 0 ++ (arrI IntKind.u8 au 16 0 ++ [Value.string g,
 Value.int IntKind.i64 v, Value.bool rm, Value.bool md, Value.slice p n c, Value.string t]))
 2]
 w W →
 AtL W n_1 (0 + 32)
 (arrI IntKind.u8 f 16 0)) ∧
 ∃ (f_1 : Nat → Int),
 gimp (!!r)
 (∀ (W : World),
 Loc w.heap.size
 [Blk.mk n_2 50
 (arrI IntKind.u8 id2 32 0 ++ (arrI IntKind.u8 au2 16 0 ++ [Value.string g2, Value.int IntKind.i64 v2, Value.bool rm2, Value.bool md2, Value.slice p2 n2 c2,
 Value.string t2]))
 2,
 Blk.mk n_1 50
 (arrI IntKind.u8 id 32 0 ++ (arrI IntKind.u8 au 16 0 ++ [Value.string g,
 Value.int IntKind.i64 v, Value.bool rm, Value.bool md, Value.slice p n c, Value.string t]))
 2]
 w W →
 AtL W n_2 (0 + 32)
 (arrI IntKind.u8 f_1 16 0)) ∧
 ∃ (r_1 : Bool),
 gimp (!!r)
 (EqP Tryz.prog 23
 (Value.agg
 (arrI IntKind.u8 f 16 0).toArray)
 (Value.agg
 (arrI IntKind.u8 f_1 16 0).toArray)
 r_1) ∧
 ∃ (x : ByteArray),
 gimp (!(!r || !r_1))
 (∀ (W : World),
 Loc w.heap.size
 [Blk.mk n_2 50
 (arrI IntKind.u8 id2 32 0 ++ (arrI IntKind.u8 au2 16 0 ++ [Value.string g2, Value.int IntKind.i64 v2, Value.bool rm2, Value.bool md2, Value.slice p2 n2 c2,
 Value.string t2]))
 2,
 Blk.mk n_1 50
 (arrI IntKind.u8 id 32 0 ++ (arrI IntKind.u8 au 16 0 ++ [Value.string g, Value.int IntKind.i64 v, Value.bool rm, Value.bool md, Value.slice p n c,
 Value.string t]))
 2]
 w W →
 W.cell? (Addr.mk n_1 (0 + 48) none) = some (Value.string x)) ∧
 ∃ (x_1 : ByteArray),
 gimp (!(!r || !r_1))
 (∀ (W : World),
 Loc w.heap.size
 [Blk.mk n_2 50
 (arrI IntKind.u8 id2 32 0 ++ (arrI IntKind.u8 au2 16 0 ++ [Value.string g2, Value.int IntKind.i64 v2, Value.bool rm2, Value.bool md2, Value.slice p2 n2 c2,
 Value.string t2]))
 2,
 Blk.mk n_1 50
 (arrI IntKind.u8 id 32 0 ++ (arrI IntKind.u8 au 16 0 ++ [Value.string g, Value.int IntKind.i64 v, Value.bool rm, Value.bool md, Value.slice p n c,
 Value.string t]))
 2]
 w W →
 W.cell? (Addr.mk n_2 (0 + 48) none) = some (Value.string x_1)) ∧
 ∃ (x_2 : Int),
 gimp (!(!r || !r_1 || !x.toList == x_1.toList))
 (∀ (W : World),
 Loc w.heap.size
 [Blk.mk n_2 50
 (arrI IntKind.u8 id2 32 0 ++ (arrI IntKind.u8 au2 16 0 ++ [Value.string g2, Value.int IntKind.i64 v2, Value.bool rm2, Value.bool md2, Value.slice p2 n2 c2,
 Value.string t2]))
 2,
 Blk.mk n_1 50
 (arrI IntKind.u8 id 32 0 ++ (arrI IntKind.u8 au 16 0 ++ [Value.string g, Value.int IntKind.i64 v, Value.bool rm, Value.bool md, Value.slice p n c,
 Value.string t]))
 2]
 w W →
 W.cell? (Addr.mk n_1 (0 + 49) none) = some (Value.int IntKind.i64 x_2)) ∧
 ∃ (x_3 : Int),
 gimp (!(!r || !r_1 || !x.toList == x_1.toList))
 (∀ (W : World),
 Loc w.heap.size
 [Blk.mk n_2 50
 (arrI IntKind.u8 id2 32 0 ++ (arrI IntKind.u8 au2 16 0 ++ [Value.string g2, Value.int IntKind.i64 v2, Value.bool rm2, Value.bool md2, Value.slice p2 n2 c2,
 Value.string t2]))
 2,
 Blk.mk n_1 50
 (arrI IntKind.u8 id 32 0 ++ (arrI IntKind.u8 au 16 0 ++ [Value.string g, Value.int IntKind.i64 v, Value.bool rm, Value.bool md, Value.slice p n c,
 Value.string t]))
 2]
 w W →
 W.cell? (Addr.mk n_2 (0 + 49) none) = some (Value.int IntKind.i64 x_3)) ∧
 ∃ (x_4 : Bool),
 gimp (!(!r || !r_1 || !x.toList == x_1.toList || x_2 != x_3))
 (∀ (W : World),
 Loc w.heap.size
 [Blk.mk n_2 50
 (arrI IntKind.u8 id2 32 0 ++ (arrI IntKind.u8 au2 16 0 ++ [Value.string g2, Value.int IntKind.i64 v2, Value.bool rm2, Value.bool md2,
 Value.slice p2 n2 c2, Value.string t2]))
 2,
 Blk.mk n_1 50
 (arrI IntKind.u8 id 32 0 ++ (arrI IntKind.u8 au 16 0 ++ [Value.string g, Value.int IntKind.i64 v, Value.bool rm, Value.bool md, Value.slice p n c,
 Value.string t]))
 2]
 w W →
 W.cell? (Addr.mk n_1 (0 + 50) none) = some (Value.bool x_4)) ∧
 ∃ (x_5 : Bool),
 gimp (!(!r || !r_1 || !x.toList == x_1.toList || x_2 != x_3))
 (∀ (W : World),
 Loc w.heap.size
 [Blk.mk n_2 50
 (arrI IntKind.u8 id2 32 0 ++ (arrI IntKind.u8 au2 16 0 ++ [Value.string g2, Value.int IntKind.i64 v2, Value.bool rm2, Value.bool md2,
 Value.slice p2 n2 c2, Value.string t2]))
 2,
 Blk.mk n_1 50
 (arrI IntKind.u8 id 32 0 ++ (arrI IntKind.u8 au 16 0 ++ [Value.string g, Value.int IntKind.i64 v, Value.bool rm, Value.bool md, Value.slice p n c,
 Value.string t]))
 2]
 w W →
 W.cell? (Addr.mk n_2 (0 + 50) none) = some (Value.bool x_5)) ∧
 ∃ (x_6 : Bool),
 gimp (!(!r || !r_1 || !x.toList == x_1.toList || x_2 != x_3 || !x_4 == x_5))
 (∀ (W : World),
 Loc w.heap.size
 [Blk.mk n_2 50
 (arrI IntKind.u8 id2 32 0 ++ (arrI IntKind.u8 au2 16 0 ++ [Value.string g2, Value.int IntKind.i64 v2, Value.bool rm2,
 Value.bool md2, Value.slice p2 n2 c2, Value.string t2]))
 2,
 Blk.mk n_1 50
 (arrI IntKind.u8 id 32 0 ++ (arrI IntKind.u8 au 16 0 ++ [Value.string g, Value.int IntKind.i64 v, Value.bool rm, Value.bool md, Value.slice p n c,
 Value.string t]))
 2]
 w W →
 W.cell? (Addr.mk n_1 (0 + 51) none) = some (Value.bool x_6)) ∧
 ∃ (x_7 : Bool),
 gimp (!(!r || !r_1 || !x.toList == x_1.toList || x_2 != x_3 || !x_4 == x_5))
 (∀ (W : World),
 Loc w.heap.size
 [Blk.mk n_2 50
 (arrI IntKind.u8 id2 32 0 ++ (arrI IntKind.u8 au2 16 0 ++ [Value.string g2,
 Value.int IntKind.i64 v2, Value.bool rm2, Value.bool md2, Value.slice p2 n2 c2,
 Value.string t2]))
 2,
 Blk.mk n_1 50
 (arrI IntKind.u8 id 32 0 ++ (arrI IntKind.u8 au 16 0 ++ [Value.string g,
 Value.int IntKind.i64 v, Value.bool rm, Value.bool md, Value.slice p n c,
 Value.string t]))
 2]
 w W →
 W.cell? (Addr.mk n_2 (0 + 51) none) = some (Value.bool x_7)) ∧
 ∃ (x_8 : ByteArray),
 gimp (!(!r || !r_1 || !x.toList == x_1.toList || x_2 != x_3 || !x_4 == x_5 || !x_6 == x_7))
 (∀ (W : World),
 Loc w.heap.size
 [Blk.mk n_2 50
 (arrI IntKind.u8 id2 32 0 ++ (arrI IntKind.u8 au2 16 0 ++ [Value.string g2,
 Value.int IntKind.i64 v2, Value.bool rm2, Value.bool md2, Value.slice p2 n2 c2,
 Value.string t2]))
 2,
 Blk.mk n_1 50
 (arrI IntKind.u8 id 32 0 ++ (arrI IntKind.u8 au 16 0 ++ [Value.string g,
 Value.int IntKind.i64 v, Value.bool rm, Value.bool md, Value.slice p n c,
 Value.string t]))
 2]
 w W →
 W.cell? (Addr.mk n_1 (0 + 53) none) = some (Value.string x_8)) ∧
 ∃ (x_9 : ByteArray),
 gimp (!(!r || !r_1 || !x.toList == x_1.toList || x_2 != x_3 || !x_4 == x_5 || !x_6 == x_7))
 (∀ (W : World),
 Loc w.heap.size
 [Blk.mk n_2 50
 (arrI IntKind.u8 id2 32 0 ++ (arrI IntKind.u8 au2 16 0 ++ [Value.string g2,
 Value.int IntKind.i64 v2, Value.bool rm2, Value.bool md2, Value.slice p2 n2 c2,
 Value.string t2]))
 2,
 Blk.mk n_1 50
 (arrI IntKind.u8 id 32 0 ++ (arrI IntKind.u8 au 16 0 ++ [Value.string g,
 Value.int IntKind.i64 v, Value.bool rm, Value.bool md, Value.slice p n c,
 Value.string t]))
 2]
 w W →
 W.cell? (Addr.mk n_2 (0 + 53) none) = some (Value.string x_9)) ∧
 ∃ (p_1 : Option Addr),
 ∃ (n_3 : Nat),
 ∃ (c_1 : Nat),
 gimp
 (!(!r || !r_1 || !x.toList == x_1.toList || x_2 != x_3 || !x_4 == x_5 ||
 !x_6 == x_7 ||
 !x_8.toList == x_9.toList))
 (∀ (W : World),
 Loc w.heap.size
 [Blk.mk n_2 50
 (arrI IntKind.u8 id2 32 0 ++ (arrI IntKind.u8 au2 16 0 ++ [Value.string g2,
 Value.int IntKind.i64 v2, Value.bool rm2, Value.bool md2, Value.slice p2 n2 c2,
 Value.string t2]))
 2,
 Blk.mk n_1 50
 (arrI IntKind.u8 id 32 0 ++ (arrI IntKind.u8 au 16 0 ++ [Value.string g,
 Value.int IntKind.i64 v, Value.bool rm, Value.bool md, Value.slice p n c,
 Value.string t]))
 2]
 w W →
 W.cell? (Addr.mk n_1 (0 + 52) none) = some (Value.slice p_1 n_3 c_1)) ∧
 ∃ (p_2 : Option Addr),
 ∃ (n_4 : Nat),
 ∃ (c_2 : Nat),
 gimp
 (!(!r || !r_1 || !x.toList == x_1.toList || x_2 != x_3 || !x_4 == x_5 ||
 !x_6 == x_7 ||
 !x_8.toList == x_9.toList))
 (∀ (W : World),
 Loc w.heap.size
 [Blk.mk n_2 50
 (arrI IntKind.u8 id2 32 0 ++ (arrI IntKind.u8 au2 16 0 ++ [Value.string g2, Value.int IntKind.i64 v2, Value.bool rm2, Value.bool md2,
 Value.slice p2 n2 c2, Value.string t2]))
 2,
 Blk.mk n_1 50
 (arrI IntKind.u8 id 32 0 ++ (arrI IntKind.u8 au 16 0 ++ [Value.string g,
 Value.int IntKind.i64 v, Value.bool rm, Value.bool md, Value.slice p n c,
 Value.string t]))
 2]
 w W →
 W.cell? (Addr.mk n_2 (0 + 52) none) = some (Value.slice p_2 n_4 c_2)) ∧
 bsp
 (!r || !r_1 || !x.toList == x_1.toList || x_2 != x_3 || !x_4 == x_5 ||
 !x_6 == x_7 ||
 !x_8.toList == x_9.toList ||
 (↑n_3 : Int) != (↑n_4 : Int))
 (∀ (W : World),
 Loc w.heap.size
 [Blk.mk n_2 50
 (arrI IntKind.u8 id2 32 0 ++ (arrI IntKind.u8 au2 16 0 ++ [Value.string g2, Value.int IntKind.i64 v2, Value.bool rm2, Value.bool md2,
 Value.slice p2 n2 c2, Value.string t2]))
 2,
 Blk.mk n_1 50
 (arrI IntKind.u8 id 32 0 ++ (arrI IntKind.u8 au 16 0 ++ [Value.string g,
 Value.int IntKind.i64 v, Value.bool rm, Value.bool md, Value.slice p n c,
 Value.string t]))
 2]
 w W →
 R (Ending.returned (Value.bool false)) W)
 (∀ (W : World),
 Loc w.heap.size
 [Blk.mk n_2 50
 (arrI IntKind.u8 id2 32 0 ++ (arrI IntKind.u8 au2 16 0 ++ [Value.string g2, Value.int IntKind.i64 v2, Value.bool rm2, Value.bool md2,
 Value.slice p2 n2 c2, Value.string t2]))
 2,
 Blk.mk n_1 50
 (arrI IntKind.u8 id 32 0 ++ (arrI IntKind.u8 au 16 0 ++ [Value.string g,
 Value.int IntKind.i64 v, Value.bool rm, Value.bool md, Value.slice p n c,
 Value.string t]))
 2]
 w W →
 ∃ (I : List Value → World → Prop),
 ∃ (m : List Value → World → Nat),
 I [Value.int IntKind.i64 0] W ∧
 ∀ (x : Int) (w' : World),
 I [Value.int IntKind.i64 x] w' →
 Loc w.heap.size
 [Blk.mk n_2 50
 (arrI IntKind.u8 id2 32 0 ++ (arrI IntKind.u8 au2 16 0 ++ [Value.string g2, Value.int IntKind.i64 v2, Value.bool rm2,
 Value.bool md2, Value.slice p2 n2 c2, Value.string t2]))
 0,
 Blk.mk n_1 50
 (arrI IntKind.u8 id 32 0 ++ (arrI IntKind.u8 au 16 0 ++ [Value.string g, Value.int IntKind.i64 v, Value.bool rm, Value.bool md,
 Value.slice p n c, Value.string t]))
 0]
 w' w' →
 bsp (decide (x < (↑n : Int)))
 (nn true p fun (b o : Nat) =>
 (0 ≤ x ∧ x < (↑n : Int)) ∧
 ∃ (f : Nat → Int),
 (∀ (W : World),
 Loc w.heap.size
 [Blk.mk n_2 50
 (arrI IntKind.u8 id2 32 0 ++ (arrI IntKind.u8 au2 16 0 ++ [Value.string g2, Value.int IntKind.i64 v2, Value.bool rm2,
 Value.bool md2, Value.slice p2 n2 c2, Value.string t2]))
 0,
 Blk.mk n_1 50
 (arrI IntKind.u8 id 32 0 ++ (arrI IntKind.u8 au 16 0 ++ [Value.string g, Value.int IntKind.i64 v, Value.bool rm,
 Value.bool md, Value.slice p n c, Value.string t]))
 0]
 w' W →
 AtL W b (o + x.toNat * 16)
 (arrI IntKind.u8 f 16 0)) ∧
 nn true p2 fun (b o : Nat) =>
 (0 ≤ x ∧ x < (↑n2 : Int)) ∧
 ∃ (f_2 : Nat → Int),
 (∀ (W : World),
 Loc w.heap.size
 [Blk.mk n_2 50
 (arrI IntKind.u8 id2 32 0 ++ (arrI IntKind.u8 au2 16 0 ++ [Value.string g2,
 Value.int IntKind.i64 v2, Value.bool rm2, Value.bool md2,
 Value.slice p2 n2 c2, Value.string t2]))
 0,
 Blk.mk n_1 50
 (arrI IntKind.u8 id 32 0 ++ (arrI IntKind.u8 au 16 0 ++ [Value.string g, Value.int IntKind.i64 v, Value.bool rm,
 Value.bool md, Value.slice p n c, Value.string t]))
 0]
 w' W →
 AtL W b (o + x.toNat * 16)
 (arrI IntKind.u8 f_2 16 0)) ∧
 ∃ (r : Bool),
 EqP Tryz.prog 23
 (Value.agg
 (arrI IntKind.u8 f 16 0).toArray)
 (Value.agg
 (arrI IntKind.u8 f_2 16 0).toArray)
 r ∧
 bsp (!r)
 (∀ (W : World),
 Loc w.heap.size
 [Blk.mk n_2 50
 (arrI IntKind.u8 id2 32 0 ++ (arrI IntKind.u8 au2 16 0 ++ [Value.string g2,
 Value.int IntKind.i64 v2, Value.bool rm2,
 Value.bool md2, Value.slice p2 n2 c2, Value.string t2]))
 0,
 Blk.mk n_1 50
 (arrI IntKind.u8 id 32 0 ++ (arrI IntKind.u8 au 16 0 ++ [Value.string g,
 Value.int IntKind.i64 v, Value.bool rm, Value.bool md,
 Value.slice p n c, Value.string t]))
 0]
 w' W →
 R (Ending.returned (Value.bool false)) W)
 (∀ (W : World),
 Loc w.heap.size
 [Blk.mk n_2 50
 (arrI IntKind.u8 id2 32 0 ++ (arrI IntKind.u8 au2 16 0 ++ [Value.string g2,
 Value.int IntKind.i64 v2, Value.bool rm2,
 Value.bool md2, Value.slice p2 n2 c2, Value.string t2]))
 0,
 Blk.mk n_1 50
 (arrI IntKind.u8 id 32 0 ++ (arrI IntKind.u8 au 16 0 ++ [Value.string g,
 Value.int IntKind.i64 v, Value.bool rm, Value.bool md,
 Value.slice p n c, Value.string t]))
 0]
 w' W →
 I [Value.int IntKind.i64 (IntKind.i64.wrap (x + 1))] W ∧
 m [Value.int IntKind.i64 (IntKind.i64.wrap (x + 1))] W <
 m [Value.int IntKind.i64 x] w'))
 (R (Ending.returned (Value.bool true)) w'))
theorem vc_xsame (id : Nat → Int) (au : Nat → Int) (g : ByteArray) (v : Int) (rm : Bool) (md : Bool) (p : Option Addr) (n : Nat) (c : Nat) (t : ByteArray) (id2 : Nat → Int) (au2 : Nat → Int) (g2 : ByteArray) (v2 : Int) (rm2 : Bool) (md2 : Bool) (p2 : Option Addr) (n2 : Nat) (c2 : Nat) (t2 : ByteArray) (w : World) (R : Ending → World → Prop) (h : VC_xsame id au g v rm md p n c t id2 au2 g2 v2 rm2 md2 p2 n2 c2 t2 w R) : Calls Tryz.prog 28 ([Value.agg
    (arrI IntKind.u8 id 32 0 ++
        (arrI IntKind.u8 au 16 0 ++
          [Value.string g, Value.int IntKind.i64 v, Value.bool rm, Value.bool md, Value.slice p n c,
            Value.string t])).toArray,
  Value.agg
    (arrI IntKind.u8 id2 32 0 ++
        (arrI IntKind.u8 au2 16 0 ++
          [Value.string g2, Value.int IntKind.i64 v2, Value.bool rm2, Value.bool md2, Value.slice p2 n2 c2,
            Value.string t2])).toArray] : List Value).toArray w R := by
  have e : execR2 { P := Tryz.prog, loops := [(4, [(5, Ck.int IntKind.i64)])], pur := pur1, tails := [], joins := [], boxes := [] } Tryz.f28.results.toList R (Tryz.f28.body.getD .skip) (initF [Value.agg
    (arrI IntKind.u8 id 32 0 ++
        (arrI IntKind.u8 au 16 0 ++
          [Value.string g, Value.int IntKind.i64 v, Value.bool rm, Value.bool md, Value.slice p n c,
            Value.string t])).toArray,
  Value.agg
    (arrI IntKind.u8 id2 32 0 ++
        (arrI IntKind.u8 au2 16 0 ++
          [Value.string g2, Value.int IntKind.i64 v2, Value.bool rm2, Value.bool md2, Value.slice p2 n2 c2,
            Value.string
              t2])).toArray] (Tryz.f28.ntmps - ([Value.agg
    (arrI IntKind.u8 id 32 0 ++
        (arrI IntKind.u8 au 16 0 ++
          [Value.string g, Value.int IntKind.i64 v, Value.bool rm, Value.bool md, Value.slice p n c,
            Value.string t])).toArray,
  Value.agg
    (arrI IntKind.u8 id2 32 0 ++
        (arrI IntKind.u8 au2 16 0 ++
          [Value.string g2, Value.int IntKind.i64 v2, Value.bool rm2, Value.bool md2, Value.slice p2 n2 c2,
            Value.string
              t2])).toArray] : List Value).length)) w = VC_xsame id au g v rm md p n c t id2 au2 g2 v2 rm2 md2 p2 n2 c2 t2 w R := by kernel_rfl
  have hb : Tryz.f28.body = some (Tryz.f28.body.getD .skip) := by kernel_rfl
  exact calls_of_exec2' (P := Tryz.prog) (fn := Tryz.f28) (c := Tryz.f28.body.getD .skip) (args := [Value.agg
    (arrI IntKind.u8 id 32 0 ++
        (arrI IntKind.u8 au 16 0 ++
          [Value.string g, Value.int IntKind.i64 v, Value.bool rm, Value.bool md, Value.slice p n c,
            Value.string t])).toArray,
  Value.agg
    (arrI IntKind.u8 id2 32 0 ++
        (arrI IntKind.u8 au2 16 0 ++
          [Value.string g2, Value.int IntKind.i64 v2, Value.bool rm2, Value.bool md2, Value.slice p2 n2 c2,
            Value.string t2])).toArray]) (w := w) (R := R) pur1_ok Tryz.func28 hb e h

def VC_xnew (p : Option Addr) (n : Nat) (c : Nat) (w : World) (R : Ending → World → Prop) : Prop :=
 ∀ (n_1 : Nat),
 bsp (decide ((↑n : Int) > 64))
 (∀ (W : World),
 Loc w.heap.size [Blk.mk n_1 33 [Value.slice none 0 0, Value.slice none 0 0] (wrM 2)] w W →
 R
 (Ending.returned
 (Value.tuple
 #[Value.agg #[Value.slice none 0 0, Value.slice none 0 0], Value.int IntKind.i64 64, Value.int IntKind.i64 9]))
 W)
 (∀ (W : World),
 Loc w.heap.size [Blk.mk n_1 33 [Value.slice none 0 0, Value.slice none 0 0] 2] w W →
 ∃ (I : List Value → World → Prop),
 ∃ (m : List Value → World → Nat),
 I [Value.int IntKind.i64 0] W ∧
 ∀ (x : Int) (w' : World),
 I [Value.int IntKind.i64 x] w' →
 bsp (decide (x < (↑n : Int)))
 (nn true p fun (b o : Nat) =>
 (0 ≤ x ∧ x < (↑n : Int)) ∧
 ∃ (x_1 : ByteArray),
 w'.cell? (Addr.mk b (o + x.toNat * 17) none) = some (Value.string x_1) ∧
 CallsS Tryz.prog 45 #[Value.string x_1] w' fun (e : Ending) (w'_1 : World) =>
 ∃ (p : Option Addr),
 ∃ (n : Nat),
 ∃ (c : Nat),
 ∃ (x_2 : Int),
 ∃ (x_3 : Int),
 e =
 Ending.returned
 (Value.tuple #[Value.slice p n c, Value.int IntKind.i64 x_2, Value.int IntKind.i64 x_3]) ∧
 KeptL [] w' w'_1 ∧
 bsp (x_3 != 0)
 (WrL w'_1 n_1 0 2 ∧
 ∀ (w1 : World),
 PutB w'_1 n_1 0 [Value.slice none 0 0, Value.slice none 0 0] w1 →
 KeptL [] w'_1 w1 ∧
 ∃ (p : Option Addr),
 ∃ (n : Nat),
 ∃ (c : Nat),
 ∃ (p_1 : Option Addr),
 ∃ (n_2 : Nat),
 ∃ (c_1 : Nat),
 AtL w1 n_1 0 [Value.slice p n c, Value.slice p_1 n_2 c_1] ∧
 R
 (Ending.returned
 (Value.tuple
 #[Value.agg #[Value.slice p n c, Value.slice p_1 n_2 c_1], Value.int IntKind.i64 x,
 Value.int IntKind.i64 x_3]))
 w1)
 (I [Value.int IntKind.i64 (IntKind.i64.wrap (x + 1))] w'_1 ∧
 m [Value.int IntKind.i64 (IntKind.i64.wrap (x + 1))] w'_1 < m [Value.int IntKind.i64 x] w'))
 (∀ (n_2 : Nat) (W : World),
 Loc w.heap.size [Blk.mk n_2 92 [] 2] w' W →
 ∃ (base : Nat),
 ∃ (xs : List Value),
 ∃ (news : List Value),
 W.ownsRow base 92 17 (Value.slice (some (Addr.mk n_2 0 none)) 0 0) 0 xs ∧
 news.length = n * 17 ∧
 SrcP W p news ∧
 0 + n ≤ 9223372036854775807 ∧
 (0 + n) * 32 ≤ 140737488355328 ∧
 base ≤ W.heap.size ∧
 ∀ (p' : Option Addr) (c' : Nat) (w' : World),
 w'.ownsRow base 92 17 (Value.slice p' (0 + n) c') (0 + n) (xs ++ news) →
 W.grownBy w' (Value.slice (some (Addr.mk n_2 0 none)) 0 0).ownBlock →
 (0 + n ≤ 0 → p' = some (Addr.mk n_2 0 none) ∧ c' = 0) →
 KeptL [] W w' ∧
 WrL w' n_1 0 2 ∧
 ∀ (w1 : World),
 PutB w' n_1 0 [Value.slice p' (0 + n) c', Value.slice none 0 0] w1 →
 KeptL [] w' w1 ∧
 ∃ (p : Option Addr),
 ∃ (n : Nat),
 ∃ (c : Nat),
 ∃ (p_1 : Option Addr),
 ∃ (n_3 : Nat),
 ∃ (c_1 : Nat),
 AtL w1 n_1 0 [Value.slice p n c, Value.slice p_1 n_3 c_1] ∧
 R
 (Ending.returned
 (Value.tuple
 #[Value.agg #[Value.slice p n c, Value.slice p_1 n_3 c_1],
 Value.int IntKind.i64 0, Value.int IntKind.i64 0]))
 w1))
theorem vc_xnew (p : Option Addr) (n : Nat) (c : Nat) (w : World) (R : Ending → World → Prop) (h : VC_xnew p n c w R) : Calls Tryz.prog 14 ([Value.slice
    p n c] : List Value).toArray w R := by
  have e : execR2 { P := Tryz.prog, loops := [(4, [(5, Ck.int IntKind.i64)])], pur := pur1, tails := [], joins := [], boxes := [] } Tryz.f14.results.toList R (Tryz.f14.body.getD .skip) (initF [Value.slice
    p n c] (Tryz.f14.ntmps - ([Value.slice p n c] : List Value).length)) w = VC_xnew p n c w R := by kernel_rfl
  have hb : Tryz.f14.body = some (Tryz.f14.body.getD .skip) := by kernel_rfl
  exact calls_of_exec2' (P := Tryz.prog) (fn := Tryz.f14) (c := Tryz.f14.body.getD .skip) (args := [Value.slice p n
    c]) (w := w) (R := R) pur1_ok Tryz.func14 hb e h

def VC_xauth (p : Option Addr) (n : Nat) (c : Nat) (q : Option Addr) (k : Nat) (d : Nat) (s : ByteArray) (a : Nat → Int) (w : World) (R : Ending → World → Prop) : Prop :=
 ∀ (n_1 n_2 : Nat) (W : World),
 Loc w.heap.size
 [Blk.mk n_2 23
 (arrI IntKind.u8 a 16 0)
 2,
 Blk.mk n_1 33 [Value.slice p n c, Value.slice q k d] 2]
 w W →
 ∃ (I : List Value → World → Prop),
 ∃ (m : List Value → World → Nat),
 I [Value.int IntKind.i64 0] W ∧
 ∀ (x : Int) (w' : World),
 I [Value.int IntKind.i64 x] w' →
 Loc w.heap.size
 [Blk.mk n_2 23
 (arrI IntKind.u8 a 16 0)
 0,
 Blk.mk n_1 33 [Value.slice p n c, Value.slice q k d] 0]
 w' w' →
 bsp (decide (x < (↑n : Int)))
 (nn true p fun (b o : Nat) =>
 (0 ≤ x ∧ x < (↑n : Int)) ∧
 ∃ (x_1 : ByteArray),
 w'.cell? (Addr.mk b (o + x.toNat * 17) none) = some (Value.string x_1) ∧
 CallsS Tryz.prog 45 #[Value.string x_1] w' fun (e : Ending) (w'_1 : World) =>
 ∃ (p_1 : Option Addr),
 ∃ (n_3 : Nat),
 ∃ (c_1 : Nat),
 ∃ (x_2 : Int),
 ∃ (x_3 : Int),
 e =
 Ending.returned
 (Value.tuple #[Value.slice p_1 n_3 c_1, Value.int IntKind.i64 x_2, Value.int IntKind.i64 x_3]) ∧
 KeptL [n_2, n_1] w' w'_1 ∧
 nn true p fun (b o : Nat) =>
 (0 ≤ x ∧ x < (↑n : Int)) ∧
 ∃ (f : Nat → Int),
 (∀ (W : World),
 Loc w.heap.size
 [Blk.mk n_2 23
 (arrI IntKind.u8 a 16 0)
 0,
 Blk.mk n_1 33 [Value.slice p n c, Value.slice q k d] 0]
 w'_1 W →
 AtL W b (o + x.toNat * 17 + 1)
 (arrI IntKind.u8 f 16 0)) ∧
 ∃ (r : Bool),
 EqP Tryz.prog 23
 (Value.agg
 (arrI IntKind.u8 f 16 0).toArray)
 (Value.agg
 (arrI IntKind.u8 a 16 0).toArray)
 r ∧
 ∀ (W : World),
 Loc w.heap.size
 [Blk.mk n_2 23
 (arrI IntKind.u8 a 16 0)
 0,
 Blk.mk n_1 33 [Value.slice p n c, Value.slice q k d] 0]
 w'_1 W →
 bsp r
 (CallsS Tryz.prog 47 #[Value.slice p_1 n_3 c_1, Value.string s] W
 fun (e : Ending) (w'_2 : World) =>
 ∃ (x_4 : Int),
 e = Ending.returned (Value.int IntKind.i64 x_4) ∧
 KeptL [n_2, n_1] W w'_2 ∧
 bsp (true && x_4 == 1) (R (Ending.returned (Value.bool true)) w'_2)
 (I [Value.int IntKind.i64 (IntKind.i64.wrap (x + 1))] w'_2 ∧
 m [Value.int IntKind.i64 (IntKind.i64.wrap (x + 1))] w'_2 <
 m [Value.int IntKind.i64 x] w'))
 (KeptL [n_2, n_1] W W ∧
 I [Value.int IntKind.i64 (IntKind.i64.wrap (x + 1))] W ∧
 m [Value.int IntKind.i64 (IntKind.i64.wrap (x + 1))] W <
 m [Value.int IntKind.i64 x] w'))
 (R (Ending.returned (Value.bool false)) w')
theorem vc_xauth (p : Option Addr) (n : Nat) (c : Nat) (q : Option Addr) (k : Nat) (d : Nat) (s : ByteArray) (a : Nat → Int) (w : World) (R : Ending → World → Prop) (h : VC_xauth p n c q k d s a w R) : Calls Tryz.prog 17 ([Value.agg
    #[Value.slice p n c, Value.slice q k d],
  Value.string s, Value.agg (arrI IntKind.u8 a 16 0).toArray] : List Value).toArray w R := by
  have e : execR2 { P := Tryz.prog, loops := [(2, [(7, Ck.int IntKind.i64)])], pur := pur1, tails := [(5, 11)], joins := [], boxes := [] } Tryz.f17.results.toList R (Tryz.f17.body.getD .skip) (initF [Value.agg
    #[Value.slice p n c, Value.slice q k d],
  Value.string s,
  Value.agg
    (arrI IntKind.u8 a 16
        0).toArray] (Tryz.f17.ntmps - ([Value.agg #[Value.slice p n c, Value.slice q k d], Value.string s,
  Value.agg (arrI IntKind.u8 a 16 0).toArray] : List Value).length)) w = VC_xauth p n c q k d s a w R := by kernel_rfl
  have hb : Tryz.f17.body = some (Tryz.f17.body.getD .skip) := by kernel_rfl
  exact calls_of_exec2' (P := Tryz.prog) (fn := Tryz.f17) (c := Tryz.f17.body.getD .skip) (args := [Value.agg
    #[Value.slice p n c, Value.slice q k d],
  Value.string s, Value.agg (arrI IntKind.u8 a 16 0).toArray]) (w := w) (R := R) pur1_ok Tryz.func17 hb e h

def VC_xfind (p : Option Addr) (n : Nat) (c : Nat) (q : Option Addr) (k : Nat) (d : Nat) (i : Nat → Int) (w : World) (R : Ending → World → Prop) : Prop :=
 ∀ (n_1 n_2 : Nat) (W : World),
 Loc w.heap.size
 [Blk.mk n_2 47
 (arrI IntKind.u8 i 32 0)
 2,
 Blk.mk n_1 33 [Value.slice p n c, Value.slice q k d] 2]
 w W →
 ∃ (I : List Value → World → Prop),
 ∃ (m : List Value → World → Nat),
 I [Value.int IntKind.i64 0] W ∧
 ∀ (x : Int) (w' : World),
 I [Value.int IntKind.i64 x] w' →
 Loc w.heap.size
 [Blk.mk n_2 47
 (arrI IntKind.u8 i 32 0)
 0,
 Blk.mk n_1 33 [Value.slice p n c, Value.slice q k d] 0]
 w' w' →
 bsp (decide (x < (↑k : Int)))
 (nn true q fun (b o : Nat) =>
 (0 ≤ x ∧ x < (↑k : Int)) ∧
 ∃ (f : Nat → Int),
 (∀ (W : World),
 Loc w.heap.size
 [Blk.mk n_2 47
 (arrI IntKind.u8 i 32 0)
 0,
 Blk.mk n_1 33 [Value.slice p n c, Value.slice q k d] 0]
 w' W →
 AtL W b (o + x.toNat * 54)
 (arrI IntKind.u8 f 32 0)) ∧
 ∃ (r : Bool),
 EqP Tryz.prog 47
 (Value.agg
 (arrI IntKind.u8 f 32 0).toArray)
 (Value.agg
 (arrI IntKind.u8 i 32 0).toArray)
 r ∧
 bsp r
 (∀ (W : World),
 Loc w.heap.size
 [Blk.mk n_2 47
 (arrI IntKind.u8 i 32 0)
 0,
 Blk.mk n_1 33 [Value.slice p n c, Value.slice q k d] 0]
 w' W →
 R (Ending.returned (Value.int IntKind.i64 x)) W)
 (∀ (W : World),
 Loc w.heap.size
 [Blk.mk n_2 47
 (arrI IntKind.u8 i 32 0)
 0,
 Blk.mk n_1 33 [Value.slice p n c, Value.slice q k d] 0]
 w' W →
 I [Value.int IntKind.i64 (IntKind.i64.wrap (x + 1))] W ∧
 m [Value.int IntKind.i64 (IntKind.i64.wrap (x + 1))] W < m [Value.int IntKind.i64 x] w'))
 (R (Ending.returned (Value.int IntKind.i64 (-1))) w')
theorem vc_xfind (p : Option Addr) (n : Nat) (c : Nat) (q : Option Addr) (k : Nat) (d : Nat) (i : Nat → Int) (w : World) (R : Ending → World → Prop) (h : VC_xfind p n c q k d i w R) : Calls Tryz.prog 70 ([Value.agg
    #[Value.slice p n c, Value.slice q k d],
  Value.agg (arrI IntKind.u8 i 32 0).toArray] : List Value).toArray w R := by
  have e : execR2 { P := Tryz.prog, loops := [(2, [(5, Ck.int IntKind.i64)])], pur := pur1, tails := [], joins := [], boxes := [] } Tryz.f70.results.toList R (Tryz.f70.body.getD .skip) (initF [Value.agg
    #[Value.slice p n c, Value.slice q k d],
  Value.agg
    (arrI IntKind.u8 i 32
        0).toArray] (Tryz.f70.ntmps - ([Value.agg #[Value.slice p n c, Value.slice q k d],
  Value.agg (arrI IntKind.u8 i 32 0).toArray] : List Value).length)) w = VC_xfind p n c q k d i w R := by kernel_rfl
  have hb : Tryz.f70.body = some (Tryz.f70.body.getD .skip) := by kernel_rfl
  exact calls_of_exec2' (P := Tryz.prog) (fn := Tryz.f70) (c := Tryz.f70.body.getD .skip) (args := [Value.agg
    #[Value.slice p n c, Value.slice q k d],
  Value.agg (arrI IntKind.u8 i 32 0).toArray]) (w := w) (R := R) pur1_ok Tryz.func70 hb e h

end Go.Proofs.YtkkfnlehlkiejaaGreatDoor

/- Chapter 21: the contracts of the reference: Check, Same, New, Authority, find. Lists of at most 2^30 bytes. -/
namespace Go.Proofs.YtkkfnlehlkiejaaGreatDoor
open Go.RowKit Go.Maps

theorem relEs_len {es : List Ent} {L : List RItA} (h : RelEnts es (L.map (·.1))) (h64 : es.length ≤ 64) (h80 : ∀ e ∈ es, e.els.length ≤ 80) : L.length ≤ 64 ∧ ∀ x ∈ L, x.1.rs.length ≤ 80 := by
  have hl := h.len
  rw [List.length_map] at hl
  refine ⟨by omega, fun x hx => ?_⟩
  obtain ⟨j, hj, rfl⟩ := List.getElem_of_mem hx
  have hj' : j < es.length := by omega
  have := (h.at_ j es[j] L[j].1 (List.getElem?_eq_getElem hj') (by simp [hj])).els.len
  rw [← this]
  exact h80 _ (List.getElem_mem hj')
theorem auEqR {f g : Nat → Int} (hf : BY f) (hg : BY g) : EqP Tryz.prog 23 (.agg (arrI .u8 f 16 0).toArray) (.agg (arrI .u8 g 16 0).toArray) (decide (auI f = auI g)) :=
  eq_bytes Tryz.underlying23 Tryz.underlying5 (by kernel_rfl) (by kernel_rfl) (by kernel_rfl) (by decide +kernel) (by kernel_rfl) (by kernel_rfl) (auI_len f) (auI_bd hf) (auI_len g) (auI_bd hg)
theorem idEqR {f g : Nat → Int} (hf : BY f) (hg : BY g) : EqP Tryz.prog 47 (.agg (arrI .u8 f 32 0).toArray) (.agg (arrI .u8 g 32 0).toArray) (decide (idI f = idI g)) :=
  eq_bytes Tryz.underlying47 Tryz.underlying5 (by kernel_rfl) (by kernel_rfl) (by kernel_rfl) (by decide +kernel) (by kernel_rfl) (by kernel_rfl) (idI_len f) (idI_bd hf) (idI_len g) (idI_bd hg)
set_option maxHeartbeats 1000000 in
theorem xcheck_any (x : DX) (w : World) (hR : RowA auC 16 w x.p x.d.ms) (ho : x.d.OK) :
    Calls Tryz.prog 25 #[.agg (dfC x).toArray] w fun e w' => e = .returned (.int .i64 (dchk x.d)) ∧ K0 w w' := by
  obtain ⟨d, p, c⟩ := x
  obtain ⟨id, au, g, v, rm, md, ms, tx⟩ := d
  refine vc_xcheck id au g v rm md p ms.length c tx w _ (fun n1 W hW => ?_)
  have kW : K0 w W := hW.kk rfl
  have hb0 := hW.cells 0 rfl
  simp only at hR
  unfold dchk
  simp only
  refine ⟨(xgcheck_any g W).mono fun e w1 ⟨he, k1⟩ => ⟨_, he, .of_k0 k1, bsp_intro (fun h => ?_) (fun h => ?_)⟩⟩
  · rw [if_pos (by simpa using h)]; exact ⟨rfl, kW.trans k1⟩
  rw [if_neg (by simpa using h)]
  have k01 := kW.trans k1
  have hb1 := k1.blk hb0 (fun h => h)
  refine ⟨v, gimp_intro fun _ => cell_at hb1 rfl, bsp_intro (fun h => ?_) (fun h => ?_)⟩
  · rw [if_pos (by simp only [Bool.or_eq_true, decide_eq_true_eq] at h; omega)]; exact ⟨rfl, k01⟩
  rw [if_neg (by simp only [Bool.or_eq_false_iff, decide_eq_false_iff_not] at h; omega)]
  refine ⟨md, gimp_intro fun _ => cell_at hb1 rfl, p, ms.length, c, gimp_intro fun _ => cell_at hb1 rfl, tx, gimp_intro fun _ => cell_at hb1 rfl, bsp_intro (fun h => ?_) (fun h => ?_)⟩
  · have h : rm = true ∧ (md = true ∨ 0 < ms.length ∨ tx.size ≠ 0) := by
      rw [toList_nil] at h
      simp only [Bool.and_eq_true, Bool.or_eq_true, decide_eq_true_eq, Bool.not_eq_true', decide_eq_false_iff_not] at h
      obtain ⟨h1, (h2 | h2) | h2⟩ := h
      · exact ⟨h1, .inl h2⟩
      · exact ⟨h1, .inr (.inl (by omega))⟩
      · exact ⟨h1, .inr (.inr h2)⟩
    rw [if_pos h]; exact ⟨rfl, k01⟩
  have h3 : ¬ (rm = true ∧ (md = true ∨ 0 < ms.length ∨ tx.size ≠ 0)) := by
    rw [toList_nil] at h
    rintro ⟨h1, h2⟩
    rw [h1] at h
    simp only [Bool.true_and, Bool.or_eq_false_iff, decide_eq_false_iff_not, Bool.not_eq_false', decide_eq_true_eq] at h
    rcases h2 with h2 | h2 | h2
    · rw [h2] at h; cases h.1.1
    · have := h.1.2; omega
    · exact h2 h.2
  rw [if_neg h3]
  refine bsp_intro (fun h => ?_) (fun h => ?_)
  · rw [if_pos (by simp at h; omega)]; exact ⟨rfl, k01⟩
  have h8 : ¬ 8 < ms.length := by simp at h; omega
  rw [if_neg h8]
  refine ⟨fun vs w' => ∃ i : Nat, vs = [.int .i64 (i : Int)] ∧ i ≤ ms.length ∧ dupE ((ms.map auI).take i) ((ms.map auI).drop i) = dupE [] (ms.map auI) ∧ K0 w w',
    fun vs _ => (match vs with | .int _ x :: _ => ms.length - x.toNat | _ => 0), ⟨0, rfl, by omega, rfl, k01⟩, ?_⟩
  rintro x w2 ⟨i, hv, hi, hD, k2⟩ _
  simp only [List.cons.injEq, Value.int.injEq, true_and, and_true] at hv
  subst hv
  refine bsp_intro (fun hlt => ?_) (fun hge => ?_)
  · have hlt : i < ms.length := by simp at hlt; omega
    obtain ⟨z, b, o, hz, hp, hat⟩ := (hR.k0 k2).get hlt
    have hmz : (ms.map auI)[i]? = some (auI z) := by rw [List.getElem?_map, hz]; rfl
    rw [dupE_step hmz] at hD
    refine ⟨fun vs w' => ∃ j : Nat, vs = [.int .i64 (j : Int)] ∧ j ≤ i ∧ (∀ (q : Nat) (y : Nat → Int), q < j → ms[q]? = some y → auI y ≠ auI z) ∧ K0 w w',
      fun vs _ => (match vs with | .int _ x :: _ => i - x.toNat | _ => 0), ⟨0, rfl, by omega, (fun q y h => by omega), k2⟩, ?_⟩
    rintro x w3 ⟨j, hv, hj, hall, k3⟩ _
    simp only [List.cons.injEq, Value.int.injEq, true_and, and_true] at hv
    subst hv
    refine bsp_intro (fun hlj => ?_) (fun hgj => ?_)
    · have hlj : j < i := by simp at hlj; omega
      obtain ⟨y, b2, o2, hy, hp2, hat2⟩ := (hR.k0 k3).get (k := j) (by omega)
      obtain ⟨z', b3, o3, hz', hp3, hat3⟩ := (hR.k0 k3).get hlt
      rw [hz] at hz'
      cases hz'
      rw [Int.toNat_natCast, Int.toNat_natCast]
      refine nn_is hp2 ⟨⟨by omega, by omega⟩, y, fun W hW => hat2.k0 (hW.kk rfl), nn_is hp3 ⟨⟨by omega, by omega⟩, z, fun W hW => hat3.k0 (hW.kk rfl), _, auEqR (ho.ms y (List.mem_of_getElem? hy)) (ho.ms z (List.mem_of_getElem? hz)), bsp_intro (fun h => fun W hW => ?_) (fun h => fun W hW => ?_)⟩⟩
      · have h : auI y = auI z := of_decide_eq_true h
        have hm : auI z ∈ (ms.map auI).take i := by
          rw [← h]
          refine List.mem_iff_getElem?.2 ⟨j, ?_⟩
          rw [List.getElem?_take, if_pos hlj, List.getElem?_map, hy]; rfl
        rw [if_pos hm] at hD
        rw [if_pos (by rw [← hD]; decide)]
        exact ⟨rfl, hW.k0 k3⟩
      · have h : ¬ auI y = auI z := of_decide_eq_false h
        refine ⟨⟨j + 1, by rw [inc64 (by omega)], hlj, fun q u hq hu => ?_, hW.k0 k3⟩, by rw [inc64 (by omega)]; simp only [Int.toNat_natCast]; omega⟩
        by_cases e : q = j
        · rw [e, hy] at hu; cases hu; exact h
        · exact hall q u (by omega) hu
    · have hji : j = i := by simp at hgj; omega
      subst hji
      have hm : ¬ auI z ∈ (ms.map auI).take j := fun hm => by
        obtain ⟨q, hq⟩ := List.mem_iff_getElem?.1 hm
        rw [List.getElem?_take] at hq
        split at hq
        · rename_i hqj
          rw [List.getElem?_map, Option.map_eq_some_iff] at hq
          obtain ⟨u, hu, e⟩ := hq
          exact hall q u hqj hu e
        · cases hq
      rw [if_neg hm] at hD
      exact ⟨⟨j + 1, by rw [inc64 (by omega)], hlt, hD, k3⟩, by rw [inc64 (by omega)]; simp only [Int.toNat_natCast]; omega⟩
  · have hi : i = ms.length := by simp at hge; omega
    subst hi
    have hz : dupE [] (ms.map auI) = 0 := by
      rw [← hD]
      have : (ms.map auI).drop ms.length = [] := List.drop_of_length_le (by simp)
      rw [this]; rfl
    rw [if_neg (by rw [hz]; decide)]
    refine bsp_intro (fun h => ?_) (fun h => ?_)
    · rw [if_pos (by simp at h; omega)]; exact ⟨rfl, k2⟩
    · rw [if_neg (by simp at h; omega)]; exact ⟨rfl, k2⟩
set_option maxHeartbeats 2000000 in
theorem xsame_any (x y : DX) (w : World) (hx : RowA auC 16 w x.p x.d.ms) (hy : RowA auC 16 w y.p y.d.ms) (ox : x.d.OK) (oy : y.d.OK) (hl : x.d.ms.length ≤ 1099511627776) :
    Calls Tryz.prog 28 #[.agg (dfC x).toArray, .agg (dfC y).toArray] w fun e w' => e = .returned (.bool (dEq x.d y.d)) ∧ K0 w w' := by
  obtain ⟨⟨id, au, g, v, rm, md, ms, tx⟩, p, c⟩ := x
  obtain ⟨⟨id2, au2, g2, v2, rm2, md2, ms2, tx2⟩, p2, c2⟩ := y
  simp only at hx hy hl
  refine vc_xsame id au g v rm md p ms.length c tx id2 au2 g2 v2 rm2 md2 p2 ms2.length c2 tx2 w _ (fun n1 n2 => ?_)
  refine ⟨_, idEqR ox.id oy.id, au, gimp_intro fun _ W hW => AtL_block (hW.cells 1 rfl) rfl, au2, gimp_intro fun _ W hW => AtL_block (hW.cells 0 rfl) rfl, _, gimp_intro fun _ => auEqR ox.au oy.au, ?_⟩
  refine ⟨g, gimp_intro fun _ W hW => cell_at (hW.cells 1 rfl) rfl, g2, gimp_intro fun _ W hW => cell_at (hW.cells 0 rfl) rfl, v, gimp_intro fun _ W hW => cell_at (hW.cells 1 rfl) rfl, v2, gimp_intro fun _ W hW => cell_at (hW.cells 0 rfl) rfl, ?_⟩
  refine ⟨rm, gimp_intro fun _ W hW => cell_at (hW.cells 1 rfl) rfl, rm2, gimp_intro fun _ W hW => cell_at (hW.cells 0 rfl) rfl, md, gimp_intro fun _ W hW => cell_at (hW.cells 1 rfl) rfl, md2, gimp_intro fun _ W hW => cell_at (hW.cells 0 rfl) rfl, ?_⟩
  refine ⟨tx, gimp_intro fun _ W hW => cell_at (hW.cells 1 rfl) rfl, tx2, gimp_intro fun _ W hW => cell_at (hW.cells 0 rfl) rfl, p, ms.length, c, gimp_intro fun _ W hW => cell_at (hW.cells 1 rfl) rfl, p2, ms2.length, c2, gimp_intro fun _ W hW => cell_at (hW.cells 0 rfl) rfl, ?_⟩
  rw [str_beq, str_beq]
  refine bsp_intro (fun h => fun W hW => ⟨?_, hW.kk rfl⟩) (fun h => fun W hW => ?_)
  · congr 2
    unfold dEq
    simp only
    symm
    rw [Bool.eq_false_iff]
    intro hc
    simp only [Bool.and_eq_true] at hc
    obtain ⟨h1, h2, h3, h4, h5, h6, h7, h8⟩ := hc
    have hle : ms.length = ms2.length := by
      have := congrArg List.length (of_decide_eq_true h7)
      simpa using this
    rw [h1, h2, h3, h8, hle] at h
    simp only [beq_iff_eq] at h4 h5 h6
    rw [h4, h5, h6] at h
    simp at h
  · have kW : K0 w W := hW.kk rfl
    simp only [Bool.or_eq_false_iff, Bool.not_eq_false', decide_eq_true_eq, bne_eq_false_iff_eq, beq_iff_eq] at h
    obtain ⟨⟨⟨⟨⟨⟨⟨h1, h2⟩, h3⟩, h4⟩, h5⟩, h6⟩, h7⟩, h8⟩ := h
    have hn : ms.length = ms2.length := by omega
    have hE : dEq ⟨id, au, g, v, rm, md, ms, tx⟩ ⟨id2, au2, g2, v2, rm2, md2, ms2, tx2⟩ = decide (ms.map auI = ms2.map auI) := by
      unfold dEq
      simp only
      rw [decide_eq_true h1, decide_eq_true h2, decide_eq_true h3, decide_eq_true h7, h4, h5, h6]
      simp
    rw [hE]
    refine ⟨fun vs w' => ∃ i : Nat, vs = [.int .i64 (i : Int)] ∧ i ≤ ms.length ∧ (ms.take i).map auI = (ms2.take i).map auI ∧ K0 w w',
      fun vs _ => (match vs with | .int _ x :: _ => ms.length - x.toNat | _ => 0), ⟨0, rfl, by omega, by simp, kW⟩, ?_⟩
    rintro x w1 ⟨i, hv, hi, ht, k1⟩ _
    simp only [List.cons.injEq, Value.int.injEq, true_and, and_true] at hv
    subst hv
    refine bsp_intro (fun hlt => ?_) (fun hge => ?_)
    · have hlt : i < ms.length := by simp at hlt; omega
      obtain ⟨z, b1, o1, hz, hp1, hc1⟩ := (hx.k0 k1).get hlt
      obtain ⟨y, b2, o2, hyy, hp2, hc2⟩ := (hy.k0 k1).get (k := i) (by omega)
      rw [Int.toNat_natCast]
      refine nn_is hp1 ⟨⟨by omega, by omega⟩, z, fun W hW => hc1.k0 (hW.kk rfl), nn_is hp2 ⟨⟨by omega, by omega⟩, y, fun W hW => hc2.k0 (hW.kk rfl), _, auEqR (ox.ms z (List.mem_of_getElem? hz)) (oy.ms y (List.mem_of_getElem? hyy)), bsp_intro (fun hne => fun W hW => ?_) (fun heq => fun W hW => ?_)⟩⟩
      · have hne : ¬ auI z = auI y := by simpa using hne
        have : ¬ ms.map auI = ms2.map auI := fun e => by
          have := congrArg (·[i]?) e
          simp only [List.getElem?_map, hz, hyy, Option.map_some, Option.some.injEq] at this
          exact hne this
        rw [decide_eq_false this]; exact ⟨rfl, k1.trans (hW.kk rfl)⟩
      · have e : auI z = auI y := by simpa using heq
        refine ⟨⟨i + 1, by rw [inc64 (by omega)], hlt, ?_, k1.trans (hW.kk rfl)⟩, by rw [inc64 (by omega)]; simp only [Int.toNat_natCast]; omega⟩
        rw [take_snoc hz, take_snoc hyy, List.map_append, List.map_append, ht]
        simp [e]
    · have hi : i = ms.length := by simp at hge; omega
      subst hi
      rw [List.take_length, List.take_of_length_le (by omega)] at ht
      rw [decide_eq_true ht]; exact ⟨rfl, k1⟩

/-! ### Authorities -/
theorem newE_all : ∀ (l : List Au) (i : Nat), (newE l i).2 = 0 → ∀ x ∈ l, ∃ es, listR x.pt = .inl es
  | [], _, _ => fun x hx => by cases hx
  | y :: r, i, h => by
    unfold newE at h
    intro x hx
    cases hl : listR y.pt with
    | inl es =>
      rw [hl] at h
      rcases List.mem_cons.1 hx with rfl | hx
      · exact ⟨es, hl⟩
      · exact newE_all r (i + 1) h x hx
    | inr oe =>
      obtain ⟨o, e⟩ := oe
      rw [hl] at h
      exact absurd h (listR_err hl)
set_option maxHeartbeats 1000000 in
theorem xnew_any (l : List Au) (p : Option Addr) (c : Nat) (w : World) (hR : RowA atC 17 w p l) (hsz : ∀ x ∈ l, x.pt.size ≤ 1073741824) :
    Calls Tryz.prog 14 #[.slice p l.length c] w fun e w' => ((64 < l.length ∧ e = .returned (.tuple #[.agg #[.slice none 0 0, .slice none 0 0], .int .i64 64, .int .i64 9])) ∨
      (l.length ≤ 64 ∧ (newE l 0).2 ≠ 0 ∧ e = .returned (.tuple #[.agg #[.slice none 0 0, .slice none 0 0], .int .i64 ((newE l 0).1 : Nat), .int .i64 (newE l 0).2])) ∨
      (l.length ≤ 64 ∧ (newE l 0) = (0, 0) ∧ ∃ (ap : Option Addr) (ac : Nat), e = .returned (.tuple #[.agg #[.slice ap l.length ac, .slice none 0 0], .int .i64 0, .int .i64 0]) ∧ RowA atC 17 w' ap l)) ∧ K0 w w' := by
  refine vc_xnew p l.length c w _ (fun n1 => bsp_intro (fun h => fun W hW => ⟨.inl ⟨by simp at h; omega, rfl⟩, hW.kk rfl⟩) (fun h => fun W hW => ?_))
  have h64 : l.length ≤ 64 := by simp at h; omega
  have kW : K0 w W := hW.kk rfl
  have b1 := hW.cells 0 rfl
  have g1 : w.heap.size ≤ n1 := hW.fresh 0 rfl rfl
  have l1 := block_lt b1
  simp only at l1
  refine ⟨fun vs w' => ∃ k : Nat, vs = [.int .i64 (k : Int)] ∧ k ≤ l.length ∧ newE (l.drop k) k = newE l 0 ∧ K0 W w',
    fun vs _ => (match vs with | .int _ x :: _ => l.length - x.toNat | _ => 0), ⟨0, rfl, by omega, rfl, .refl _ _⟩, ?_⟩
  rintro x w1 ⟨k, hv, hk, hE, k1⟩
  simp only [List.cons.injEq, Value.int.injEq, true_and, and_true] at hv
  subst hv
  have k01 := kW.trans k1
  refine bsp_intro (fun hlt => ?_) (fun hge => fun n2 W2 hW2 => ?_)
  · have hlt : k < l.length := by simp at hlt; omega
    obtain ⟨x, b2, o2, hx, hp, hat⟩ := (hR.k0 k01).get hlt
    have hxm := List.mem_of_getElem? hx
    rw [newE_step hx] at hE
    rw [Int.toNat_natCast]
    have hc0 := hat.cell (j := 0) (v := .string x.pt) rfl
    refine nn_is hp ⟨⟨by omega, by omega⟩, x.pt, hc0, ?_⟩
    refine ⟨(rparseList_any x.pt w1 (hsz x hxm)).mono fun e w2 ⟨k2, hQ⟩ => ?_⟩
    cases hl : listR x.pt with
    | inr oe =>
      obtain ⟨oo, ee⟩ := oe
      rw [hl] at hQ hE
      have hne := listR_err hl
      have hE : (k, ee) = newE l 0 := hE
      have hb2 := k2.blk (k1.blk b1 (fun h => h)) (fun h => h)
      refine ⟨_, _, _, _, _, hQ, .of_k0 k2, bsp_intro (fun _ => ⟨WrL_block hb2 (by show 0 + 2 ≤ 2; omega), fun w3 p3 => ?_⟩) (fun h => absurd h (by simpa using hne))⟩
      have hb3 := p3.block hb2
      exact ⟨.of_kp p3.kp (fun _ hx => by cases hx), _, _, _, _, _, _, AtL_block hb3 rfl, .inr (.inl ⟨h64, by rw [← hE]; exact hne, by rw [← hE]⟩), put_k0 (k01.trans k2) p3 g1⟩
    | inl es =>
      rw [hl] at hQ hE
      obtain ⟨p', n', c', L, he, _, _⟩ := hQ
      have hE : newE (l.drop (k + 1)) (k + 1) = newE l 0 := hE
      exact ⟨_, _, _, _, _, he, .of_k0 k2, bsp_intro (fun h => by cases h) (fun _ => ⟨⟨k + 1, by rw [inc64 (by omega)], hlt, hE, k1.trans k2⟩, by rw [inc64 (by omega)]; simp only [Int.toNat_natCast]; omega⟩)⟩
  · have hk2 : k = l.length := by simp at hge; omega
    subst hk2
    rw [List.drop_length] at hE
    have hE : (0, 0) = newE l 0 := hE
    have k2 : K0 w1 W2 := hW2.kk rfl
    have k02 := k01.trans k2
    have g2 : w1.heap.size ≤ n2 := hW2.fresh 0 rfl rfl
    have h0 := hW2.cells 0 rfl
    refine ⟨w1.heap.size, [], l.flatMap atC, own_none g2 h0, by rw [len_flat atC 17 l (fun y _ => atC_length y)], src_rowA (hR.k0 k02) atC_length atC_one (by decide), by omega, by omega, k2.size, fun p' c' w3 ho hg _ => ?_⟩
    rw [Nat.zero_add] at ho
    rw [Nat.zero_add]
    have kg : K0 w1 w3 := k2.fresh (kp_grown hg) (fun j hj e => by simp only [Value.ownBlock, Option.some.injEq] at e; omega)
    have hb3 := kg.blk (k1.blk b1 (fun h => h)) (fun h => h)
    refine ⟨⟨(kp_grown hg).size, fun _ hx => by cases hx⟩, WrL_block hb3 (by show 0 + 2 ≤ 2; omega), fun w4 p4 => ?_⟩
    have hb4 := p4.block hb3
    have ho : w3.ownsRow w1.heap.size 92 17 (.slice p' l.length c') l.length (l.flatMap atC) := by simpa using ho
    have hn1 : n1 < w1.heap.size := Nat.lt_of_lt_of_le l1 k1.size
    have ho4 := owns_kp ho p4.kp (fun j hj e => by have := own_ge ho hj; have e : j = n1 := e; omega)
    exact ⟨.of_kp p4.kp (fun _ hx => by cases hx), _, _, _, _, _, _, AtL_block hb4 rfl, .inr (.inr ⟨h64, hE.symm, p', c', rfl, RowA.own ho4 atC_length (by decide)⟩), put_k0 (k01.trans kg) p4 g1⟩
set_option maxHeartbeats 1000000 in
theorem xauth_any (A : List Au) (p : Option Addr) (c : Nat) (q : Option Addr) (k d : Nat) (s : ByteArray) (a : Nat → Int) (w : World) (hR : RowA atC 17 w p A) (hb : ∀ x ∈ A, BY x.au) (hl : A.length ≤ 64) (hL : ∀ x ∈ A, ∃ es, listR x.pt = .inl es) (hsz : ∀ x ∈ A, x.pt.size ≤ 1073741824) (ha : BY a) (hs : s.size ≤ 140737488355328) :
    Calls Tryz.prog 17 #[.agg #[.slice p A.length c, .slice q k d], .string s, .agg (arrI .u8 a 16 0).toArray] w fun e w' => e = .returned (.bool (isAu A s a)) ∧ K0 w w' := by
  refine vc_xauth p A.length c q k d s a w _ (fun n1 n2 W hW => ?_)
  have kW : K0 w W := hW.kk rfl
  refine ⟨fun vs w' => ∃ k : Nat, vs = [.int .i64 (k : Int)] ∧ k ≤ A.length ∧ isAu (A.drop k) s a = isAu A s a ∧ K0 w w',
    fun vs _ => (match vs with | .int _ x :: _ => A.length - x.toNat | _ => 0), ⟨0, rfl, by omega, rfl, kW⟩, ?_⟩
  rintro x w1 ⟨k, hv, hk, hI, k1⟩ _
  simp only [List.cons.injEq, Value.int.injEq, true_and, and_true] at hv
  subst hv
  refine bsp_intro (fun hlt => ?_) (fun hge => ?_)
  · have hlt : k < A.length := by simp at hlt; omega
    obtain ⟨x, b1, o1, hx, hp, hat⟩ := (hR.k0 k1).get hlt
    have hxm := List.mem_of_getElem? hx
    obtain ⟨es, hes⟩ := hL x hxm
    rw [isAu_step s a hx, hes] at hI
    have hI : ((decide (auI x.au = auI a) && (verd es s == 1)) || isAu (A.drop (k + 1)) s a) = isAu A s a := hI
    have hc0 := hat.cell (j := 0) (v := .string x.pt) rfl
    rw [Int.toNat_natCast]
    refine nn_is hp ⟨⟨by omega, by omega⟩, x.pt, hc0, ⟨(rparseList_any x.pt w1 (hsz x hxm)).mono fun e w2 ⟨k2, hQ⟩ => ?_⟩⟩
    rw [hes] at hQ
    obtain ⟨p', n', c', L, he, hRL, hrel⟩ := hQ
    have hls := listR_ok hes
    obtain ⟨l64, l80⟩ := relEs_len hrel hls.1 hls.2
    have k12 := k1.trans k2
    have hatx : AtL w2 b1 (o1 + k * 17 + 1) (arrI .u8 x.au 16 0) := ⟨At_of _ _ fun j v hv => by
      have := (hat.k0 k2).cell (j := j + 1) (v := v) (by simpa [atC] using hv)
      rw [show o1 + k * 17 + (j + 1) = o1 + k * 17 + 1 + j by omega] at this
      exact this⟩
    refine ⟨_, _, _, _, _, he, .of_k0 k2, nn_is hp ⟨⟨by omega, by omega⟩, x.au, fun W hW => hatx.k0 (hW.kk rfl), _, auEqR (hb x hxm) ha, fun W3 hW3 => ?_⟩⟩
    have k3 : K0 w2 W3 := hW3.kk rfl
    have k03 := k12.trans k3
    refine bsp_intro (fun hr => ?_) (fun hr => ?_)
    · refine ⟨(rverdict_any (hRL.kp k3) s hs l64 l80).mono fun e w4 ⟨he, k4⟩ => ⟨_, he, .of_k0 k4, bsp_intro (fun h1 => ?_) (fun h1 => ?_)⟩⟩
      · have h1 : (rverd (L.map (·.1)) s == 1) = true := by simpa using h1
        rw [← rel_verd hrel] at h1
        rw [hr, h1] at hI
        rw [← hI]
        exact ⟨rfl, k03.trans k4⟩
      · have h1 : (rverd (L.map (·.1)) s == 1) = false := by simpa using h1
        rw [← rel_verd hrel] at h1
        rw [h1, Bool.and_false, Bool.false_or] at hI
        exact ⟨⟨k + 1, by rw [inc64 (by omega)], hlt, hI, k03.trans k4⟩, by rw [inc64 (by omega)]; simp only [Int.toNat_natCast]; omega⟩
    · rw [hr, Bool.false_and, Bool.false_or] at hI
      exact ⟨.refl _ _, ⟨k + 1, by rw [inc64 (by omega)], hlt, hI, k03⟩, by rw [inc64 (by omega)]; simp only [Int.toNat_natCast]; omega⟩
  · have hk2 : k = A.length := by simp at hge; omega
    subst hk2
    rw [List.drop_length] at hI
    rw [← hI]
    exact ⟨rfl, k1⟩

end Go.Proofs.YtkkfnlehlkiejaaGreatDoor
