/- The contract of wildmat.parseClass, by a plain function. The text has at least one and at most 2^20 bytes. -/
import Derived.Test.YtkkfnlehlkiejaaGreatDoorZ03
import Derived.Test.YtkkfnlehlkiejaaGreatDoorProg
import Derived.Test.YtkkfnlehlkiejaaGreatDoorZ02
import Derived.KernelRfl
namespace Go.Proofs.YtkkfnlehlkiejaaGreatDoor
open Go.RowKit

theorem byteCells_length (s : ByteArray) : (byteCells s).length = s.size := by
  unfold byteCells
  rw [List.length_map]
  exact s.data.length_toList
/-- A row of bytes as a string. -/
theorem owns_bytes {w : World} {base : Nat} {e : TypeId} {p : Option Addr} {n c : Nat} {s : ByteArray} (h : w.ownsRow base e 1 (.slice p n c) n (byteCells s)) : s.size = n ∧ BytesP w p s := by
  have hl := h.1
  rw [byteCells_length] at hl
  refine ⟨by omega, ⟨?_⟩⟩
  rcases h.2 with ⟨_, hn⟩ | ⟨g, cap, cur, hv, _, hg, _, _, _, ht⟩
  · left; omega
  · right
    simp only [Value.slice.injEq] at hv
    refine ⟨g, 0, hv.1, At_of _ 0 fun j v hj => ?_⟩
    rw [Nat.zero_add, cell_block hg]
    rw [← ht, List.getElem?_take] at hj
    split at hj
    · simpa using hj
    · simp at hj

def pickB (x : ByteArray) (neg : Bool) (b : UInt8) : Bool := !(hasB x (b.toNat : Int) == neg)
/-- The characters of a class. -/
def clsB (x : ByteArray) (neg : Bool) : ByteArray := ⟨(nameBytes.data.toList.filter (pickB x neg)).toArray⟩
theorem byteCells_cls (x : ByteArray) (neg : Bool) : byteCells (clsB x neg) = (nameBytes.data.toList.filter (pickB x neg)).map (fun b => Value.int .u8 b.toNat) := by simp [byteCells, clsB]

theorem class_loop {w0 wS : World} {n : Nat} {x : ByteArray} {neg : Bool} {R : ByteArray → World → Prop} {t : TypeId} {fz : Nat × Nat} (hb : wS.heap[n]? = some (.cells (byteCells nameBytes).toArray t fz)) (hK : K0 w0 wS) (hR : ∀ w', K0 w0 w' → R (clsB x neg) w') :
    ∃ (I : List Value → World → Prop), ∃ (m : List Value → World → Nat), I [.int .i64 0, .slice none 0 0] wS ∧
      ∀ (x_2 : Int) (p : Option Addr) (n_1 c : Nat) (w' : World), I [.int .i64 x_2, .slice p n_1 c] w' →
        bsp (decide (x_2 < (↑40 : Int)))
          ((0 ≤ x_2 ∧ x_2 < (↑40 : Int)) ∧
            ∃ (x_3 : Int), w'.cell? (Addr.mk n (0 + x_2.toNat) none) = some (.int .u8 x_3) ∧
              bsp (!decide (Lib.indexByte x.data.toList x_3.toNat.toUInt8 ≥ 0) == neg)
                (∀ (n : Nat) (w1 : World), NewB w' (Obj.cells #[.int .u8 x_3] 5) n w1 →
                  ∃ (base : Nat), ∃ (xs : List Value), ∃ (news : List Value), w1.ownsRow base 5 1 (.slice p n_1 c) n_1 xs ∧ news.length = 1 ∧ SrcP w1 (some (Addr.mk n 0 none)) news ∧
                    n_1 + 1 ≤ 9223372036854775807 ∧ (n_1 + 1) * 1 ≤ 140737488355328 ∧ base ≤ w1.heap.size ∧
                    ∀ (p' : Option Addr) (c' : Nat) (w'_1 : World), w'_1.ownsRow base 5 1 (.slice p' (n_1 + 1) c') (n_1 + 1) (xs ++ news) → w1.grownBy w'_1 (Value.slice p n_1 c).ownBlock → (n_1 + 1 ≤ c → p' = p ∧ c' = c) →
                      I [.int .i64 (IntKind.i64.wrap (x_2 + 1)), .slice p' (n_1 + 1) c'] w'_1 ∧ m [.int .i64 (IntKind.i64.wrap (x_2 + 1)), .slice p' (n_1 + 1) c'] w'_1 < m [.int .i64 x_2, .slice p n_1 c] w')
                (I [.int .i64 (IntKind.i64.wrap (x_2 + 1)), .slice p n_1 c] w' ∧ m [.int .i64 (IntKind.i64.wrap (x_2 + 1)), .slice p n_1 c] w' < m [.int .i64 x_2, .slice p n_1 c] w'))
          (∃ (s : ByteArray), (s.size = n_1 ∧ BytesP w' p s) ∧ R s w') := by
  let l := nameBytes.data.toList
  have hl : l.length = 40 := rfl
  let cell := fun b : UInt8 => Value.int .u8 b.toNat
  refine ⟨fun vs w' => ∃ (k : Nat) (p : Option Addr) (n_1 c : Nat), vs = [.int .i64 k, .slice p n_1 c] ∧ k ≤ 40 ∧ n_1 ≤ k ∧ K0 wS w' ∧ w'.ownsRow wS.heap.size 5 1 (.slice p n_1 c) n_1 (((l.take k).filter (pickB x neg)).map cell),
    fun vs _ => (match vs with | .int _ x :: _ => 40 - x.toNat | _ => 0), ⟨0, none, 0, 0, rfl, by omega, by omega, .refl _ _, World.ownsRow_nil _ _ _ _⟩, fun x_2 p n_1 c w' ⟨k, p', n', c', hv, hk, hn, hw, ho⟩ => ?_⟩
  simp only [List.cons.injEq, Value.int.injEq, true_and, Value.slice.injEq, and_true] at hv
  obtain ⟨rfl, rfl, rfl, rfl⟩ := hv
  have hbw : w'.heap[n]? = some (.cells (byteCells nameBytes).toArray t fz) := hw.blk hb (fun h => h)
  have hnb : n < wS.heap.size := block_lt hb
  refine bsp_intro (fun hlt => ?_) (fun hge => ?_)
  · have hlt : (k : Int) < 40 := of_decide_eq_true hlt
    have hlt : k < 40 := by omega
    have hlk : l[k]? = some (l[k]'(by rw [hl]; exact hlt)) := List.getElem?_eq_getElem _
    generalize hbk : l[k]'(by rw [hl]; exact hlt) = b at hlk
    have hbd := b.toNat_lt
    have htk : l.take (k + 1) = l.take k ++ [b] := by rw [List.take_add_one, hlk]; rfl
    have hwr : IntKind.i64.wrap ((k : Int) + 1) = ((k + 1 : Nat) : Int) := by rw [wr64 (by omega) (by omega)]; omega
    rw [hwr]
    refine ⟨by omega, (b.toNat : Int), ?_, ?_⟩
    · rw [Nat.zero_add, Int.toNat_natCast, cell_block hbw]
      have : (byteCells nameBytes)[k]? = some (.int .u8 b.toNat) := by
        show (l.map fun b => Value.int .u8 b.toNat)[k]? = _
        rw [List.getElem?_map, hlk]; rfl
      simpa using this
    · have hP : (!decide (Lib.indexByte x.data.toList (b.toNat : Int).toNat.toUInt8 ≥ 0) == neg) = pickB x neg b := by
        unfold pickB
        rw [show decide (Lib.indexByte x.data.toList (b.toNat : Int).toNat.toUInt8 ≥ 0) = hasB x (b.toNat : Int) from indexByte_nonneg _ _]
      rw [hP]
      refine bsp_intro (fun hp => fun n2 w1 hn2 => ?_) (fun hp => ⟨⟨k + 1, p, n_1, c, rfl, by omega, by omega, hw, ?_⟩, by simp; omega⟩)
      · have hK1 : K0 wS w1 := hw.trans (hn2.kp _)
        refine ⟨wS.heap.size, _, [.int .u8 b.toNat], owns_kp ho (hn2.kp (fun _ => False)) (fun _ _ h => h), rfl, src_block hn2.block (by simp [Value.oneCell']), by omega, by omega, hK1.size, fun p' c' w2 ho2 hg _ => ?_⟩
        refine ⟨⟨k + 1, p', n_1 + 1, c', rfl, by omega, by omega, hK1.grown hg (fun q hq => .inl (ho.lt q hq).1), ?_⟩, by simp; omega⟩
        rw [htk, List.filter_append, List.map_append]
        simpa [List.filter, hp, cell] using ho2
      · rw [htk, List.filter_append, List.map_append]
        simpa [List.filter, hp] using ho
  · have hge : ¬ (k : Int) < 40 := of_decide_eq_false hge
    have h40 : k = 40 := by omega
    subst h40
    have ht : l.take 40 = l := List.take_of_length_le (by rw [hl]; exact Nat.le_refl _)
    rw [ht, ← byteCells_cls] at ho
    exact ⟨clsB x neg, owns_bytes ho, hR w' (hK.trans hw)⟩

theorem itemsS_le (s : ByteArray) : ∀ (f k : Nat) (p : Int → Bool), k ≤ s.size → (itemsS s f k p).2 ≤ s.size
  | 0, k, p, h => h
  | f + 1, k, p, h => by
    unfold itemsS
    split
    · split
      · rename_i hr
        simp [rngB] at hr
        split
        · exact h
        · exact itemsS_le s f _ _ (by omega)
      · split
        · exact itemsS_le s f _ _ (by omega)
        · exact h
    · exact h
def negB (s : ByteArray) : Bool := Lib.hasPrefix s.data.toList [91, 94]
def fromN (s : ByteArray) : Nat := if negB s = true then 2 else 1
def restB (s : ByteArray) : ByteArray := s.extract (fromN s) s.size
def listS (s : ByteArray) : (Int → Bool) × Nat := itemsS (restB s) (restB s).size 0 (fun _ => false)
/-- The length of the class at the beginning, or 0. -/
def clsN (s : ByteArray) : Nat := if (listS s).2 = 0 ∨ fromN s + (listS s).2 = s.size ∨ at8 s (fromN s + (listS s).2) ≠ 93 then 0 else fromN s + (listS s).2 + 1
/-- The characters of the class at the beginning. -/
def clsS (s : ByteArray) : ByteArray := if clsN s = 0 then ⟨#[]⟩ else ⟨(nameBytes.data.toList.filter fun b => !((listS s).1 b.toNat == negB s)).toArray⟩
theorem hasPrefix_size {s : ByteArray} (h : negB s = true) : 2 ≤ s.size := by
  have hl : s.data.toList.length = s.size := s.data.length_toList
  unfold negB at h
  cases hs : s.data.toList with
  | nil => rw [hs] at h; simp [Lib.hasPrefix] at h
  | cons a r => cases r with
    | nil => rw [hs] at h; simp [Lib.hasPrefix] at h
    | cons b r => rw [hs] at hl; simp at hl; omega
theorem clsB_eq {s x : ByteArray} (h : clsN s ≠ 0) (hx : ∀ d, 0 ≤ d → d ≤ 255 → hasB x d = (listS s).1 d) : clsB x (negB s) = clsS s := by
  unfold clsB clsS
  rw [if_neg h]
  congr 2
  apply List.filter_congr
  intro b _
  unfold pickB
  rw [hx b.toNat (by omega) (by have := b.toNat_lt; omega)]
theorem parseClass_any (s : ByteArray) (w : World) (h1 : 1 ≤ s.size) (hs : s.size ≤ 1048576) : Calls Tryz.prog 86 #[.string s] w fun e w' =>
    e = .returned (.tuple #[.string (clsS s), .int .i64 (clsN s)]) ∧ K0 w w' := by
  refine vc_parseClass s w _ ?_
  unfold VC_parseClass
  have hsz : (restB s).size = s.size - fromN s := by unfold restB; rw [ByteArray.size_extract]; simp
  have key : ∀ (fr : Nat), fr = fromN s → ∀ (e : Ending) (w' : World), (∃ x : ByteArray, e = .returned (.tuple #[.string x, .int .i64 (listS s).2]) ∧ (∀ d, 0 ≤ d → d ≤ 255 → hasB x d = (listS s).1 d) ∧ x.size ≤ 256 * (restB s).size ∧ K0 w w') →
      (fr : Int) ≤ s.size →
      IntKind.i64.wrap ((fr : Int) + (listS s).2) = ((fr + (listS s).2 : Nat) : Int) := fun fr hfr e w' _ hle => by
    have := itemsS_le (restB s) (restB s).size 0 (fun _ => false) (by omega)
    have h2 : (listS s).2 ≤ (restB s).size := this
    rw [hsz] at h2
    rw [wr64 (by omega) (by omega)]; omega
  have hN : ∀ {w' : World}, ((listS s).2 = 0 ∨ fromN s + (listS s).2 = s.size ∨ at8 s (fromN s + (listS s).2) ≠ 93) → K0 w w' →
      (Ending.returned (.tuple #[.string ⟨#[]⟩, .int .i64 0]) = .returned (.tuple #[.string (clsS s), .int .i64 (clsN s)]) ∧ K0 w w') := fun h hk => by
    have h0 : clsN s = 0 := by unfold clsN; rw [if_pos h]
    refine ⟨?_, hk⟩
    unfold clsS
    rw [h0, if_pos rfl]
    rfl
  have core : ∀ (fr : Nat), fr = fromN s → fr ≤ s.size → ∀ (e : Ending) (w' : World), (∃ x : ByteArray, e = .returned (.tuple #[.string x, .int .i64 (listS s).2]) ∧ (∀ d, 0 ≤ d → d ≤ 255 → hasB x d = (listS s).1 d) ∧ x.size ≤ 256 * (restB s).size ∧ K0 w w') →
      ∃ (x : ByteArray), ∃ (x_1 : Int), e = .returned (.tuple #[.string x, .int .i64 x_1]) ∧
        gimp (!(x_1 == 0 || IntKind.i64.wrap ((fr : Int) + x_1) == (↑s.size : Int))) (0 ≤ IntKind.i64.wrap ((fr : Int) + x_1) ∧ IntKind.i64.wrap ((fr : Int) + x_1) < (↑s.size : Int)) ∧
        bsp (x_1 == 0 || IntKind.i64.wrap ((fr : Int) + x_1) == (↑s.size : Int) || at8 s (IntKind.i64.wrap ((fr : Int) + x_1)).toNat != 93)
          (Ending.returned (.tuple #[.string ⟨#[]⟩, .int .i64 0]) = .returned (.tuple #[.string (clsS s), .int .i64 (clsN s)]) ∧ K0 w w')
          (∀ (n : Nat) (w1 : World), NewB w' (Obj.cells (byteCells nameBytes).toArray 5) n w1 → ∀ (w2 : World), MarkB w1 n w2 → clsN s ≠ 0 ∧ K0 w w2 ∧ w2.heap[n]? = some (.cells (byteCells nameBytes).toArray 5 (40, 41)) ∧
            (∀ d, 0 ≤ d → d ≤ 255 → hasB x d = (listS s).1 d) ∧ IntKind.i64.wrap (IntKind.i64.wrap ((fr : Int) + x_1) + 1) = (clsN s : Int)) := fun fr hfr hle e w' he => by
    have hk := key fr hfr e w' he (by omega)
    obtain ⟨x, he, hx, _, hw⟩ := he
    refine ⟨x, _, he, ?_⟩
    rw [hk]
    have h2 : (listS s).2 ≤ (restB s).size := itemsS_le (restB s) (restB s).size 0 (fun _ => false) (by omega)
    rw [hsz] at h2
    have hcond : ((((listS s).2 : Nat) : Int) == 0 || ((fr + (listS s).2 : Nat) : Int) == (↑s.size : Int) || at8 s (((fr + (listS s).2 : Nat) : Int)).toNat != 93) = true ↔ ((listS s).2 = 0 ∨ fromN s + (listS s).2 = s.size ∨ at8 s (fromN s + (listS s).2) ≠ 93) := by
      rw [Int.toNat_natCast, hfr]
      simp only [Bool.or_eq_true, beq_iff_eq, bne_iff_ne, ne_eq, or_assoc]
      constructor
      · rintro (h | h | h)
        · left; omega
        · right; left; omega
        · right; right; exact h
      · rintro (h | h | h)
        · left; omega
        · right; left; omega
        · right; right; exact h
    refine ⟨gimp_intro fun hg => ?_, bsp_intro (fun hc => hN (hcond.1 hc) hw) (fun hc => fun n w1 hn w2 hm => ?_)⟩
    · simp only [Bool.not_eq_true', Bool.or_eq_false_iff, beq_eq_false_iff_ne, ne_eq] at hg
      omega
    · have hc' : ¬ ((listS s).2 = 0 ∨ fromN s + (listS s).2 = s.size ∨ at8 s (fromN s + (listS s).2) ≠ 93) := fun h => by rw [hcond.2 h] at hc; cases hc
      have hcn : clsN s = fromN s + (listS s).2 + 1 := by unfold clsN; rw [if_neg hc']
      refine ⟨by omega, ?_, hm.block hn.block, hx, ?_⟩
      · have := hn.ge
        have := hw.size
        exact (hw.trans (hn.kp _)).fresh hm.kp (fun i hi h => by omega)
      · rw [hcn, ← hfr, wr64 (by omega) (by omega)]; omega
  refine bsp_intro (fun hneg => ?_) (fun hneg => ?_)
  · have hf : fromN s = 2 := by unfold fromN; exact if_pos (show negB s = true from hneg)
    have h2 := hasPrefix_size hneg
    have hr : s.extract 2 s.size = restB s := by unfold restB; rw [hf]
    rw [hr]
    refine ⟨⟨by decide, by omega⟩, ⟨(items_any (restB s) w (by omega)).mono fun e w' he => ?_⟩⟩
    obtain ⟨x, x_1, h3, h4, h5⟩ := core 2 hf.symm h2 e w' he
    refine ⟨x, x_1, h3, h4, bsp_mono h5 (fun h => h) (fun h n w1 hn w2 hm => ?_)⟩
    obtain ⟨q1, q2, q3, q4, q5⟩ := h n w1 hn w2 hm
    refine class_loop q3 q2 (fun w3 hk => ⟨?_, hk⟩)
    rw [show IntKind.i64.wrap (IntKind.i64.wrap (2 + x_1) + 1) = (clsN s : Int) from q5]
    rw [show Lib.hasPrefix s.data.toList [91, 94] = negB s from rfl, clsB_eq q1 q4]
  · have hf : fromN s = 1 := by unfold fromN; rw [if_neg (by rw [show negB s = false from hneg]; decide)]
    have hr : s.extract 1 s.size = restB s := by unfold restB; rw [hf]
    rw [hr]
    refine ⟨⟨by decide, by omega⟩, ⟨(items_any (restB s) w (by omega)).mono fun e w' he => ?_⟩⟩
    obtain ⟨x, x_1, h3, h4, h5⟩ := core 1 hf.symm h1 e w' he
    refine ⟨x, x_1, h3, h4, bsp_mono h5 (fun h => h) (fun h n w1 hn w2 hm => ?_)⟩
    obtain ⟨q1, q2, q3, q4, q5⟩ := h n w1 hn w2 hm
    refine class_loop q3 q2 (fun w3 hk => ⟨?_, hk⟩)
    rw [show IntKind.i64.wrap (IntKind.i64.wrap (1 + x_1) + 1) = (clsN s : Int) from q5]
    rw [show Lib.hasPrefix s.data.toList [91, 94] = negB s from rfl, clsB_eq q1 q4]

end Go.Proofs.YtkkfnlehlkiejaaGreatDoor

/- Rows that grow by one element, cells of own blocks: lemmas for the proofs of formulas. Generic: no program, no condition. -/
namespace Go.Proofs.YtkkfnlehlkiejaaGreatDoor
open Go.RowKit

/-- One element is appended (its cells lie in a new block). -/
theorem app1 {w w1 : World} {base n2 n c L sz : Nat} {T : TypeId} {p : Option Addr} {xs : List Value} {cs : Array Value} (ho : w.ownsRow base T L (.slice p n c) n xs) (hb : base ≤ w.heap.size) (hn : NewB w (.cells cs T) n2 w1) (hL : cs.size = L)
    (hv : ∀ u ∈ cs.toList, u.oneCell' = true) (h1 : n + 1 ≤ 9223372036854775807) (h2 : (n + 1) * sz ≤ 140737488355328) {X : Option Addr → Nat → World → Prop}
    (h : ∀ (p' : Option Addr) (c' : Nat) (w' : World), w'.ownsRow base T L (.slice p' (n + 1) c') (n + 1) (xs ++ cs.toList) → Kp (fun k => (Value.slice p n c).ownBlock = some k) w w' → w1.heap.size ≤ w'.heap.size → X p' c' w') :
    ∃ (base : Nat) (xs news : List Value), w1.ownsRow base T L (.slice p n c) n xs ∧ news.length = L ∧ SrcP w1 (some (Addr.mk n2 0 none)) news ∧ n + 1 ≤ 9223372036854775807 ∧ (n + 1) * sz ≤ 140737488355328 ∧ base ≤ w1.heap.size ∧
      ∀ (p' : Option Addr) (c' : Nat) (w' : World), w'.ownsRow base T L (.slice p' (n + 1) c') (n + 1) (xs ++ news) → w1.grownBy w' (Value.slice p n c).ownBlock → (n + 1 ≤ c → p' = p ∧ c' = c) → X p' c' w' := by
  have hk := hn.kp (fun _ => False)
  refine ⟨base, xs, cs.toList, owns_kp ho hk (fun _ _ h => h), by simpa using hL, src_block hn.block hv, h1, h2, Nat.le_trans hb hk.size, fun p' c' w' ho' hg _ => h p' c' w' ho' ?_ hg.size⟩
  exact (hn.kp _).grown hg (fun k hk => .inr hk)
/-- The block of a row is not before its base. -/
theorem own_ge {w : World} {base : Nat} {e : TypeId} {size : Nat} {v : Value} {n : Nat} {xs : List Value} (h : w.ownsRow base e size v n xs) {k : Nat} (hk : v.ownBlock = some k) : base ≤ k := (h.lt k hk).1
theorem own_lt {w : World} {base : Nat} {e : TypeId} {size : Nat} {v : Value} {n : Nat} {xs : List Value} (h : w.ownsRow base e size v n xs) {k : Nat} (hk : v.ownBlock = some k) : k < w.heap.size := (h.lt k hk).2
theorem cell_at {w : World} {b o : Nat} {c : Array Value} {t : TypeId} {f : Nat × Nat} {v : Value} (h : w.heap[b]? = some (.cells c t f)) (hv : c[o]? = some v) : w.cell? ⟨b, o, none⟩ = some v := by rw [cell_block h]; exact hv
/-- A block that can be written: a cell of it. -/
theorem cell_wr {w : World} {b o : Nat} {c : Array Value} {t : TypeId} (h : w.heap[b]? = some (.cells c t (0, 0))) (ho : o < c.size) : (∃ u, w.cell? ⟨b, o, none⟩ = some u) ∧ w.frozen? ⟨b, o, none⟩ = false :=
  ⟨⟨c[o], by rw [cell_block h]; simp [ho]⟩, frozen_block h _⟩
/-- An element of a row, read. -/
theorem own_cell {w : World} {base : Nat} {e : TypeId} {n c : Nat} {p : Option Addr} {xs : List Value} (h : w.ownsRow base e 1 (.slice p n c) n xs) {k : Nat} (hk : k < n) : ∃ g v, p = some ⟨g, 0, none⟩ ∧ xs[k]? = some v ∧ w.cell? ⟨g, 0 + k, none⟩ = some v := by
  have hl := h.1
  rcases h.2 with ⟨_, hn⟩ | ⟨g, cap, cur, hv, _, hg, _, _, _, ht⟩
  · omega
  · simp only [Value.slice.injEq] at hv
    obtain ⟨v, hx⟩ : ∃ v, xs[k]? = some v := ⟨_, List.getElem?_eq_getElem (by omega)⟩
    refine ⟨g, v, hv.1, hx, ?_⟩
    rw [cell_block hg, Nat.zero_add]
    rw [← ht, List.getElem?_take] at hx
    simp only [Nat.mul_one, hk, if_true] at hx
    rw [Array.getElem?_toList] at hx
    rw [hx]
/-- What lies in the block of a row. -/
theorem own_type {w : World} {base : Nat} {e : TypeId} {size : Nat} {v : Value} {n : Nat} {xs : List Value} (h : w.ownsRow base e size v n xs) {k : Nat} (hk : v.ownBlock = some k) : ∃ c, w.heap[k]? = some (.cells c e (0, 0)) := by
  rcases h.2 with ⟨rfl, _⟩ | ⟨g, cap, cur, rfl, _, hg, _⟩
  · simp [Value.ownBlock] at hk
  · simp only [Value.ownBlock, Option.some.injEq] at hk
    subst hk
    exact ⟨cur, hg⟩
theorem putL_all : ∀ (vs pre c : List Value), c.length = vs.length → putL (pre ++ c) pre.length vs = pre ++ vs
  | [], pre, [], _ => by simp [putL]
  | [], pre, _ :: _, h => by simp at h
  | v :: r, pre, [], h => by simp at h
  | v :: r, pre, x :: c, h => by
    have := putL_all r (pre ++ [v]) c (by simpa using h)
    simp only [putL]
    simpa using this
/-- All cells of a block are written. -/
theorem PutB.full {w w1 : World} {b : Nat} {cs : List Value} (h : PutB w b 0 cs w1) {c : Array Value} {t : TypeId} {f : Nat × Nat} (hb : w.heap[b]? = some (.cells c t f)) (hl : c.size = cs.length) : w1.heap[b]? = some (.cells cs.toArray t f) := by
  have := putL_all cs [] c.toList (by simpa using hl)
  simp at this
  rw [h.block hb, this]

end Go.Proofs.YtkkfnlehlkiejaaGreatDoor

/- The formulas of functions by the symbolic evaluator, and that each gives the call's contract. Written by a program (gen.py). No condition. -/
namespace Go.Proofs.YtkkfnlehlkiejaaGreatDoor
set_option maxRecDepth 100000
set_option linter.unusedVariables false

def VC_compile (s : ByteArray) (w : World) (R : Ending → World → Prop) : Prop :=
 bsp (s.toList == [])
 (R (Ending.returned (Value.tuple #[Value.pointer none, Value.int IntKind.i64 0, Value.int IntKind.i64 4])) w)
 (bsp (decide ((↑s.size : Int) > 80))
 (R (Ending.returned (Value.tuple #[Value.pointer none, Value.int IntKind.i64 80, Value.int IntKind.i64 5])) w)
 (∀ (n : Nat) (w1 : World),
 NewB w (Obj.cells #[Value.string s, Value.slice none 0 0] 149) n w1 →
 ∃ (I : List Value → World → Prop),
 ∃ (m : List Value → World → Nat),
 I [Value.int IntKind.i64 0] w1 ∧
 ∀ (x : Int) (w' : World),
 I [Value.int IntKind.i64 x] w' →
 bsp (decide (x < (↑s.size : Int)))
 (∃ (J : List Value → World → Prop),
 ((0 ≤ x ∧ x < (↑s.size : Int)) ∧
 bsp (at8 s x.toNat == 63)
 (∃ (p : Option Addr),
 ∃ (n_1 : Nat),
 ∃ (c : Nat),
 w'.cell? (Addr.mk n (0 + 1) none) = some (Value.slice p n_1 c) ∧
 ∀ (n_2 : Nat) (w1 : World),
 NewB w' (Obj.cells #[Value.iface 151 (Value.agg #[])] 167) n_2 w1 →
 ∃ (base : Nat),
 ∃ (xs : List Value),
 ∃ (news : List Value),
 w1.ownsRow base 167 1 (Value.slice p n_1 c) n_1 xs ∧
 news.length = 1 ∧
 SrcP w1 (some (Addr.mk n_2 0 none)) news ∧
 n_1 + 1 ≤ 9223372036854775807 ∧
 (n_1 + 1) * 16 ≤ 140737488355328 ∧
 base ≤ w1.heap.size ∧
 ∀ (p' : Option Addr) (c' : Nat) (w' : World),
 w'.ownsRow base 167 1 (Value.slice p' (n_1 + 1) c') (n_1 + 1) (xs ++ news) →
 w1.grownBy w' (Value.slice p n_1 c).ownBlock →
 (n_1 + 1 ≤ c → p' = p ∧ c' = c) →
 ((∃ (u : Value), w'.cell? (Addr.mk n (0 + 1) none) = some u) ∧
 w'.frozen? (Addr.mk n (0 + 1) none) = false) ∧
 ∀ (w1 : World),
 PutB w' n (0 + 1) [Value.slice p' (n_1 + 1) c'] w1 → J [Value.int IntKind.i64 1] w1)
 (bsp (at8 s x.toNat == 42)
 (∃ (p : Option Addr),
 ∃ (n_1 : Nat),
 ∃ (c : Nat),
 w'.cell? (Addr.mk n (0 + 1) none) = some (Value.slice p n_1 c) ∧
 ∀ (n_2 : Nat) (w1 : World),
 NewB w' (Obj.cells #[Value.iface 152 (Value.agg #[])] 167) n_2 w1 →
 ∃ (base : Nat),
 ∃ (xs : List Value),
 ∃ (news : List Value),
 w1.ownsRow base 167 1 (Value.slice p n_1 c) n_1 xs ∧
 news.length = 1 ∧
 SrcP w1 (some (Addr.mk n_2 0 none)) news ∧
 n_1 + 1 ≤ 9223372036854775807 ∧
 (n_1 + 1) * 16 ≤ 140737488355328 ∧
 base ≤ w1.heap.size ∧
 ∀ (p' : Option Addr) (c' : Nat) (w' : World),
 w'.ownsRow base 167 1 (Value.slice p' (n_1 + 1) c') (n_1 + 1) (xs ++ news) →
 w1.grownBy w' (Value.slice p n_1 c).ownBlock →
 (n_1 + 1 ≤ c → p' = p ∧ c' = c) →
 ((∃ (u : Value), w'.cell? (Addr.mk n (0 + 1) none) = some u) ∧
 w'.frozen? (Addr.mk n (0 + 1) none) = false) ∧
 ∀ (w1 : World),
 PutB w' n (0 + 1) [Value.slice p' (n_1 + 1) c'] w1 → J [Value.int IntKind.i64 1] w1)
 (bsp (at8 s x.toNat == 91)
 ((0 ≤ x ∧ x ≤ (↑s.size : Int)) ∧
 CallsS Tryz.prog 86 #[Value.string (s.extract x.toNat s.size)] w' fun (e : Ending) (w' : World) =>
 ∃ (x_1 : ByteArray),
 ∃ (x_2 : Int),
 e = Ending.returned (Value.tuple #[Value.string x_1, Value.int IntKind.i64 x_2]) ∧
 bsp (x_2 == 0)
 (R
 (Ending.returned
 (Value.tuple #[Value.pointer none, Value.int IntKind.i64 x, Value.int IntKind.i64 3]))
 w')
 (∃ (p : Option Addr),
 ∃ (n_1 : Nat),
 ∃ (c : Nat),
 w'.cell? (Addr.mk n (0 + 1) none) = some (Value.slice p n_1 c) ∧
 ∀ (n_2 : Nat) (w1 : World),
 NewB w' (Obj.cells #[Value.iface 153 (Value.string x_1)] 167) n_2 w1 →
 ∃ (base : Nat),
 ∃ (xs : List Value),
 ∃ (news : List Value),
 w1.ownsRow base 167 1 (Value.slice p n_1 c) n_1 xs ∧
 news.length = 1 ∧
 SrcP w1 (some (Addr.mk n_2 0 none)) news ∧
 n_1 + 1 ≤ 9223372036854775807 ∧
 (n_1 + 1) * 16 ≤ 140737488355328 ∧
 base ≤ w1.heap.size ∧
 ∀ (p' : Option Addr) (c' : Nat) (w' : World),
 w'.ownsRow base 167 1 (Value.slice p' (n_1 + 1) c') (n_1 + 1) (xs ++ news) →
 w1.grownBy w' (Value.slice p n_1 c).ownBlock →
 (n_1 + 1 ≤ c → p' = p ∧ c' = c) →
 ((∃ (u : Value), w'.cell? (Addr.mk n (0 + 1) none) = some u) ∧
 w'.frozen? (Addr.mk n (0 + 1) none) = false) ∧
 ∀ (w1 : World),
 PutB w' n (0 + 1) [Value.slice p' (n_1 + 1) c'] w1 →
 J [Value.int IntKind.i64 x_2] w1))
 (bsp
 (decide
 (Lib.indexByte
 (ByteArray.mk
 #[43, 45, 46, 48, 49, 50, 51, 52, 53, 54, 55, 56, 57, 95, 97, 98, 99, 100, 101, 102, 103, 104,
 105, 106, 107, 108, 109, 110, 111, 112, 113, 114, 115, 116, 117, 118, 119, 120, 121,
 122]).data.toList
 (at8 s x.toNat).toNat.toUInt8 ≥
 0))
 (∃ (S : World → Prop),
 S w'.drew ∧
 ∃ (p : Option Addr),
 ∃ (n_1 : Nat),
 ∃ (c : Nat),
 (∀ (w' : World), S w' → w'.cell? (Addr.mk n (0 + 1) none) = some (Value.slice p n_1 c)) ∧
 (0 ≤ x ∧ x ≤ IntKind.i64.wrap (x + 1) ∧ IntKind.i64.wrap (x + 1) ≤ (↑s.size : Int)) ∧
 ∀ (n_2 : Nat) (w1 : World),
 NewB w'.drew
 (Obj.cells
 #[Value.iface 157 (Value.string (s.extract x.toNat (IntKind.i64.wrap (x + 1)).toNat))] 167)
 n_2 w1 →
 S w1 ∧
 ∃ (base : Nat),
 ∃ (xs : List Value),
 ∃ (news : List Value),
 w1.ownsRow base 167 1 (Value.slice p n_1 c) n_1 xs ∧
 news.length = 1 ∧
 SrcP w1 (some (Addr.mk n_2 0 none)) news ∧
 n_1 + 1 ≤ 9223372036854775807 ∧
 (n_1 + 1) * 16 ≤ 140737488355328 ∧
 base ≤ w1.heap.size ∧
 ∀ (p' : Option Addr) (c' : Nat) (w' : World),
 w'.ownsRow base 167 1 (Value.slice p' (n_1 + 1) c') (n_1 + 1) (xs ++ news) →
 w1.grownBy w' (Value.slice p n_1 c).ownBlock →
 (n_1 + 1 ≤ c → p' = p ∧ c' = c) →
 ((∃ (u : Value), w'.cell? (Addr.mk n (0 + 1) none) = some u) ∧
 w'.frozen? (Addr.mk n (0 + 1) none) = false) ∧
 ∀ (w1 : World),
 PutB w' n (0 + 1) [Value.slice p' (n_1 + 1) c'] w1 →
 J [Value.int IntKind.i64 1] w1)
 (R
 (Ending.returned
 (Value.tuple #[Value.pointer none, Value.int IntKind.i64 x, Value.int IntKind.i64 6]))
 w'))))) ∧
 ∀ (x_1 : Int) (w'_1 : World),
 J [Value.int IntKind.i64 x_1] w'_1 →
 I [Value.int IntKind.i64 (IntKind.i64.wrap (x + x_1))] w'_1 ∧
 m [Value.int IntKind.i64 (IntKind.i64.wrap (x + x_1))] w'_1 < m [Value.int IntKind.i64 x] w')
 (R
 (Ending.returned
 (Value.tuple #[Value.pointer (some (Addr.mk n 0 none)), Value.int IntKind.i64 0, Value.int IntKind.i64 0]))
 w')))
theorem vc_compile (s : ByteArray) (w : World) (R : Ending → World → Prop) (h : VC_compile s w R) : Calls Tryz.prog 61 ([Value.string
    s] : List Value).toArray w R := by
  have e : execR { P := Tryz.prog, loops := [(7, [(6, Ck.int IntKind.i64)])], pur := pur1, tails := [(22, 11)], joins := [(23, [(7, Ck.int IntKind.i64)])], boxes := [] } Tryz.f61.results.toList R (Tryz.f61.body.getD .skip) (initF [Value.string
    s] (Tryz.f61.ntmps - ([Value.string s] : List Value).length)) w = VC_compile s w R := by kernel_rfl
  have hb : Tryz.f61.body = some (Tryz.f61.body.getD .skip) := by kernel_rfl
  exact calls_of_exec' (P := Tryz.prog) (fn := Tryz.f61) (c := Tryz.f61.body.getD .skip) (args := [Value.string
    s]) (w := w) (R := R) pur1_ok Tryz.func61 hb e h

end Go.Proofs.YtkkfnlehlkiejaaGreatDoor

/- The contract of wildmat.Compile, by a plain function. No condition. -/
namespace Go.Proofs.YtkkfnlehlkiejaaGreatDoor
open Go.RowKit

/-- A pattern in the memory: its block and its row of elements lie where D says. -/
def PatR (D : Nat → Prop) (w : World) (b : Nat) (s : ByteArray) (els : List El) : Prop :=
  ∃ (p : Option Addr) (n c : Nat), w.heap[b]? = some (.cells #[.string s, .slice p n c] 149 (0, 0)) ∧ D b ∧ w.ownsRow 0 167 1 (.slice p n c) n (els.map El.val) ∧ ∀ k, (Value.slice p n c).ownBlock = some k → D k
theorem PatR.kp {D M : Nat → Prop} {w w' : World} {b : Nat} {s : ByteArray} {els : List El} (h : PatR D w b s els) (hk : Kp M w w') (hm : ∀ k, D k → k < w.heap.size → ¬ M k) : PatR D w' b s els := by
  obtain ⟨p, n, c, h1, h2, h3, h4⟩ := h
  exact ⟨p, n, c, hk.blk h1 (hm b h2 (block_lt h1)), h2, owns_kp h3 hk (fun k hk => hm k (h4 k hk) (own_lt h3 hk)), h4⟩
/-- Blocks of other types are written. -/
theorem PatR.kpT {D M : Nat → Prop} {w w' : World} {b : Nat} {s : ByteArray} {els : List El} (h : PatR D w b s els) (hk : Kp M w w') (hm : ∀ k c t f, M k → w.heap[k]? = some (.cells c t f) → t ≠ 149 ∧ t ≠ 167) : PatR D w' b s els := by
  obtain ⟨p, n, c, h1, h2, h3, h4⟩ := h
  refine ⟨p, n, c, hk.blk h1 (fun hM => (hm b _ _ _ hM h1).1 rfl), h2, owns_kp h3 hk (fun k hk hM => ?_), h4⟩
  obtain ⟨cc, hc⟩ := own_type h3 hk
  exact (hm k _ _ _ hM hc).2 rfl
theorem PatR.mono {D D' : Nat → Prop} {w : World} {b : Nat} {s : ByteArray} {els : List El} (h : PatR D w b s els) (hd : ∀ k, D k → k < w.heap.size → D' k) : PatR D' w b s els := by
  obtain ⟨p, n, c, h1, h2, h3, h4⟩ := h
  exact ⟨p, n, c, h1, hd b h2 (block_lt h1), h3, fun k hk => hd k (h4 k hk) (own_lt h3 hk)⟩

/-- The elements of a pattern from an index on, or the offset and the kind of the error. -/
def compS (s : ByteArray) : Nat → Nat → List El → List El ⊕ (Nat × Int)
  | 0, _, acc => .inl acc
  | f + 1, k, acc =>
    if k < s.size then
      if (at8 s k == 63) = true then compS s f (k + 1) (acc ++ [.one])
      else if (at8 s k == 42) = true then compS s f (k + 1) (acc ++ [.star])
      else if (at8 s k == 91) = true then
        if clsN (s.extract k s.size) = 0 then .inr (k, 3) else compS s f (k + clsN (s.extract k s.size)) (acc ++ [.cls (clsS (s.extract k s.size))])
      else if hasB nameBytes (at8 s k) = true then compS s f (k + 1) (acc ++ [.lit (s.extract k (k + 1))])
      else .inr (k, 6)
    else .inl acc
def compileR (s : ByteArray) : List El ⊕ (Nat × Int) :=
  if s.size = 0 then .inr (0, 4) else if 80 < s.size then .inr (80, 5) else compS s s.size 0 []
theorem clsN_le (s : ByteArray) (h : 1 ≤ s.size) : clsN s ≤ s.size := by
  unfold clsN
  split
  · omega
  · rename_i hn
    have h1 := itemsS_le (restB s) (restB s).size 0 (fun _ => false) (by omega)
    have h2 : (restB s).size = s.size - fromN s := by unfold restB; rw [ByteArray.size_extract]; omega
    have h3 : fromN s ≤ s.size := by
      unfold fromN
      split
      · rename_i hneg; exact hasPrefix_size hneg
      · exact h
    have h4 : (listS s).2 ≤ s.size - fromN s := by unfold listS; omega
    have h5 : ¬ fromN s + (listS s).2 = s.size := fun e => hn (.inr (.inl e))
    omega
theorem El.oneCell (x : El) : (x.val).oneCell' = true := by cases x <;> rfl
theorem hasB_index (x : ByteArray) (c : Int) : decide (Lib.indexByte x.data.toList c.toNat.toUInt8 ≥ 0) = hasB x c := by
  exact indexByte_nonneg _ _

/-- A pattern that is being made. -/
def PatSt (w : World) (nb : Nat) (s : ByteArray) (acc : List El) : Prop :=
  ∃ (p : Option Addr) (n c : Nat), w.heap[nb]? = some (.cells #[.string s, .slice p n c] 149 (0, 0)) ∧ w.ownsRow (nb + 1) 167 1 (.slice p n c) n (acc.map El.val)
theorem PatSt.kp {w w' : World} {nb : Nat} {s : ByteArray} {acc : List El} (h : PatSt w nb s acc) (hk : K0 w w') : PatSt w' nb s acc := by
  obtain ⟨p, n, c, h1, h2⟩ := h
  exact ⟨p, n, c, hk.blk h1 (fun h => h), owns_kp h2 hk (fun _ _ h => h)⟩

set_option maxHeartbeats 400000 in
theorem compile_any (s : ByteArray) (w : World) : Calls Tryz.prog 61 #[.string s] w fun e w' => K0 w w' ∧
    match compileR s with
    | .inl els => ∃ b, e = .returned (.tuple #[.pointer (some ⟨b, 0, none⟩), .int .i64 0, .int .i64 0]) ∧ PatR (fun k => w.heap.size ≤ k) w' b s els
    | .inr (o, x) => e = .returned (.tuple #[.pointer none, .int .i64 o, .int .i64 x]) := by
  refine vc_compile s w _ ?_
  unfold VC_compile
  rw [toList_nil]
  refine bsp_intro (fun h0 => ?_) (fun h0 => bsp_intro (fun h1 => ?_) (fun h1 => ?_))
  · have h0 : s.size = 0 := by simpa using h0
    refine ⟨.refl _ _, ?_⟩
    simp only [compileR, h0, if_true]
    rfl
  · have h0 : ¬ s.size = 0 := by simpa using h0
    have h1 : 80 < s.size := by simp at h1; omega
    refine ⟨.refl _ _, ?_⟩
    simp only [compileR, h0, h1, if_true, if_false]
    rfl
  have h0 : ¬ s.size = 0 := by simpa using h0
  have h1 : ¬ 80 < s.size := by simp at h1; omega
  have hR : compileR s = compS s s.size 0 [] := by simp only [compileR, h0, h1, if_false]
  rw [hR]
  intro nb w1 hn
  refine ⟨fun vs w' => ∃ (k f : Nat) (acc : List El), vs = [.int .i64 k] ∧ k ≤ s.size ∧ s.size - k ≤ f ∧ acc.length ≤ k ∧ compS s f k acc = compS s s.size 0 [] ∧ PatSt w' nb s acc ∧ K0 w w',
    fun vs _ => (match vs with | .int _ x :: _ => s.size - x.toNat | _ => 0), ⟨0, s.size, [], rfl, by omega, by omega, by simp, rfl, ⟨none, 0, 0, hn.block, World.ownsRow_nil _ _ _ _⟩, hn.kp _⟩, fun x w' ⟨k, f, acc, hv, hk, hf, hacc, hS, hst, hw⟩ => ?_⟩
  simp only [List.cons.injEq, Value.int.injEq, true_and, and_true] at hv
  subst hv
  have hnb : nb = w.heap.size := hn.hn
  refine bsp_intro (fun hlt => ?_) (fun hge => ?_)
  · have hlt : k < s.size := by simpa using hlt
    obtain ⟨f, rfl⟩ : ∃ g, f = g + 1 := ⟨f - 1, by omega⟩
    have e0 : (k : Int).toNat = k := by omega
    rw [e0, wr64 (x := (k : Int) + 1) (by omega) (by omega)]
    have e1 : ((k : Int) + 1).toNat = k + 1 := by omega
    rw [e1]
    -- one element more
    have app : ∀ (x : El) (wa : World), PatSt wa nb s acc → K0 w wa → ∀ (p : Option Addr) (n_1 c : Nat), wa.heap[nb]? = some (.cells #[.string s, .slice p n_1 c] 149 (0, 0)) → wa.ownsRow (nb + 1) 167 1 (.slice p n_1 c) n_1 (acc.map El.val) →
        ∀ (n_2 : Nat) (w1 : World), NewB wa (.cells #[x.val] 167) n_2 w1 → ∀ (Y : World → Prop), (∀ w2, PatSt w2 nb s (acc ++ [x]) → K0 w w2 → Y w2) →
        ∃ (base : Nat) (xs news : List Value), w1.ownsRow base 167 1 (.slice p n_1 c) n_1 xs ∧ news.length = 1 ∧ SrcP w1 (some (Addr.mk n_2 0 none)) news ∧ n_1 + 1 ≤ 9223372036854775807 ∧ (n_1 + 1) * 16 ≤ 140737488355328 ∧ base ≤ w1.heap.size ∧
          ∀ (p' : Option Addr) (c' : Nat) (w' : World), w'.ownsRow base 167 1 (.slice p' (n_1 + 1) c') (n_1 + 1) (xs ++ news) → w1.grownBy w' (Value.slice p n_1 c).ownBlock → (n_1 + 1 ≤ c → p' = p ∧ c' = c) →
            ((∃ (u : Value), w'.cell? (Addr.mk nb (0 + 1) none) = some u) ∧ w'.frozen? (Addr.mk nb (0 + 1) none) = false) ∧
              ∀ (w1 : World), PutB w' nb (0 + 1) [Value.slice p' (n_1 + 1) c'] w1 → Y w1 := by
      intro x wa hsta hwa p n_1 c hb ho n_2 w1 hn2 Y hY
      have hl := ho.1
      rw [List.length_map] at hl
      refine app1 ho (block_lt hb) hn2 rfl (fun u hu => by simp at hu; subst hu; exact x.oneCell) (by omega) (by omega) (fun p' c' w' ho' hk' _ => ?_)
      have hne : ∀ k, (Value.slice p n_1 c).ownBlock = some k → ¬ nb = k := fun k hk e => by have := own_ge ho hk; omega
      have hb' : w'.heap[nb]? = some (.cells #[.string s, .slice p n_1 c] 149 (0, 0)) := hk'.blk hb (fun e => hne _ e rfl)
      refine ⟨cell_wr hb' (by simp), fun w2 hp => hY w2 ⟨p', n_1 + 1, c', hp.block hb', ?_⟩ ?_⟩
      · rw [List.map_append]
        exact owns_kp ho' hp.kp (fun k hk e => by have := own_ge ho' hk; omega)
      · have := hwa.size
        exact (hwa.fresh hk' (fun i hi e => by have := own_ge ho e; omega)).fresh hp.kp (fun i hi e => by omega)
    refine ⟨fun vs w2 => ∃ (d : Nat) (acc' : List El), vs = [.int .i64 (d : Int)] ∧ 1 ≤ d ∧ k + d ≤ s.size ∧ acc'.length ≤ k + d ∧ compS s f (k + d) acc' = compS s s.size 0 [] ∧ PatSt w2 nb s acc' ∧ K0 w w2, ⟨⟨by omega, by omega⟩, ?_⟩, fun x_1 w2 ⟨d, acc', hv, hd1, hd2, hd3, hd4, hd5, hd6⟩ => ?_⟩
    · obtain ⟨p, n_1, c, hb, ho⟩ := hst
      refine bsp_intro (fun c1 => ?_) (fun c1 => bsp_intro (fun c2 => ?_) (fun c2 => bsp_intro (fun c3 => ?_) (fun c3 => ?_)))
      · exact ⟨p, n_1, c, cell_at hb rfl, fun n_2 w1 hn2 => app .one w' ⟨p, n_1, c, hb, ho⟩ hw p n_1 c hb ho n_2 w1 hn2 _ (fun w2 h1 h2 => ⟨1, _, rfl, by omega, by omega, by simp; omega, by rw [← hS]; simp [compS, hlt, c1], h1, h2⟩)⟩
      · exact ⟨p, n_1, c, cell_at hb rfl, fun n_2 w1 hn2 => app .star w' ⟨p, n_1, c, hb, ho⟩ hw p n_1 c hb ho n_2 w1 hn2 _ (fun w2 h1 h2 => ⟨1, _, rfl, by omega, by omega, by simp; omega, by rw [← hS]; simp [compS, hlt, c1, c2], h1, h2⟩)⟩
      · have hxs : (s.extract k s.size).size = s.size - k := by rw [ByteArray.size_extract]; omega
        refine ⟨⟨by omega, by omega⟩, ⟨(parseClass_any (s.extract k s.size) w' (by omega) (by omega)).mono fun e w2 he => ?_⟩⟩
        obtain ⟨he, hk2⟩ := he
        have hle := clsN_le (s.extract k s.size) (by omega)
        have hcs0 : compS s (f + 1) k acc = if clsN (s.extract k s.size) = 0 then .inr (k, 3) else compS s f (k + clsN (s.extract k s.size)) (acc ++ [.cls (clsS (s.extract k s.size))]) := by simp [compS, hlt, c1, c2, c3]
        generalize clsN (s.extract k s.size) = cn at he hle hcs0
        generalize clsS (s.extract k s.size) = cs at he hcs0
        refine ⟨cs, cn, he, ?_⟩
        refine bsp_intro (fun c4 => ⟨hw.trans hk2, ?_⟩) (fun c4 => ?_)
        · have c4 : cn = 0 := by simpa using c4
          rw [← hS, hcs0, if_pos c4]
        · have c4 : ¬ cn = 0 := by simpa using c4
          rw [if_neg c4] at hcs0
          have hb2 := hk2.blk hb (fun h => h)
          have ho2 := owns_kp ho hk2 (fun _ _ h => h)
          exact ⟨p, n_1, c, cell_at hb2 rfl, fun n_2 w1 hn2 => app (.cls cs) w2 ⟨p, n_1, c, hb2, ho2⟩ (hw.trans hk2) p n_1 c hb2 ho2 n_2 w1 hn2 _ (fun w2 h1 h2 => ⟨cn, _, rfl, by omega, by omega, by simp; omega, by rw [← hS]; exact hcs0.symm, h1, h2⟩)⟩
      · have hh : decide (Lib.indexByte (ByteArray.mk #[43, 45, 46, 48, 49, 50, 51, 52, 53, 54, 55, 56, 57, 95, 97, 98, 99, 100, 101, 102, 103, 104, 105, 106, 107, 108, 109, 110, 111, 112, 113, 114, 115, 116, 117, 118, 119, 120, 121, 122]).data.toList (at8 s k).toNat.toUInt8 ≥ 0) = hasB nameBytes (at8 s k) := hasB_index nameBytes _
        rw [hh]
        refine bsp_intro (fun c4 => ?_) (fun c4 => ⟨hw, ?_⟩)
        · refine ⟨fun w2 => w2.cell? (Addr.mk nb (0 + 1) none) = some (Value.slice p n_1 c), cell_at (blk_drew hb) rfl, p, n_1, c, fun w2 h => h, ⟨by omega, by omega, by omega⟩, fun n_2 w1 hn2 => ?_⟩
          have hb2 := blk_drew hb
          have ho2 : w'.drew.ownsRow (nb + 1) 167 1 (.slice p n_1 c) n_1 (acc.map El.val) := ho
          refine ⟨cell_at (hn2.kp (fun _ => False) |>.blk hb2 (fun h => h)) rfl, ?_⟩
          exact app (.lit (s.extract k (k + 1))) w'.drew ⟨p, n_1, c, hb2, ho2⟩ hw.drew p n_1 c hb2 ho2 n_2 w1 hn2 _ (fun w2 h1 h2 => ⟨1, _, rfl, by omega, by omega, by simp; omega, by rw [← hS]; simp [compS, hlt, c1, c2, c3, c4], h1, h2⟩)
        · rw [← hS]
          simp [compS, hlt, c1, c2, c3, c4]
    · simp only [List.cons.injEq, Value.int.injEq, true_and, and_true] at hv
      subst hv
      rw [wr64 (by omega) (by omega)]
      exact ⟨⟨k + d, f, acc', by simp, hd2, by omega, hd3, hd4, hd5, hd6⟩, by simp; omega⟩
  · have hge : ¬ k < s.size := by simpa using hge
    refine ⟨hw, ?_⟩
    have : compS s f k acc = .inl acc := by cases f <;> simp [compS, hge]
    rw [← hS, this]
    obtain ⟨p, n, c, hb, ho⟩ := hst
    exact ⟨nb, rfl, p, n, c, hb, by omega, ⟨ho.1, ho.2.imp id fun ⟨g, cap, cur, a1, a2, a3⟩ => ⟨g, cap, cur, a1, by omega, a3⟩⟩, fun k hk => by have := own_ge ho hk; omega⟩

end Go.Proofs.YtkkfnlehlkiejaaGreatDoor

/- The formulas of functions by the symbolic evaluator, and that each gives the call's contract. Written by a program (gen.py). No condition. -/
namespace Go.Proofs.YtkkfnlehlkiejaaGreatDoor
set_option maxRecDepth 100000
set_option linter.unusedVariables false

def VC_match (b : Nat) (o : Nat) (s : ByteArray) (w : World) (R : Ending → World → Prop) : Prop :=
 ∃ (p : Option Addr),
 ∃ (n : Nat),
 ∃ (c : Nat),
 w.cell? (Addr.mk b (o + 1) none) = some (Value.slice p n c) ∧
 (0 ≤ IntKind.i64.wrap ((↑n : Int) + 1) ∧
 IntKind.i64.wrap ((↑n : Int) + 1) ≤ IntKind.i64.wrap ((↑n : Int) + 1) ∧
 (↑1 : Int) * IntKind.i64.wrap ((↑n : Int) + 1) ≤ 281474976710656 ∧
 IntKind.i64.wrap ((↑n : Int) + 1) ≤ 9223372036854775807) ∧
 ∀ (n_1 : Nat) (w1 : World),
 NewB w (Obj.cells (madeCells #[Value.bool false] ((IntKind.i64.wrap ((↑n : Int) + 1)).toNat * 1)) 4) n_1 w1 →
 ((0 : Int) ≤ 0 ∧ 0 < (↑(IntKind.i64.wrap ((↑n : Int) + 1)).toNat : Int)) ∧
 ((∃ (u : Value), w1.cell? (Addr.mk n_1 0 none) = some u) ∧ w1.frozen? (Addr.mk n_1 0 none) = false) ∧
 ∀ (w1_1 : World),
 PutB w1 n_1 0 [Value.bool true] w1_1 →
 CallsS Tryz.prog 90
 #[Value.pointer (some (Addr.mk b o none)),
 Value.slice (some (Addr.mk n_1 0 none)) (IntKind.i64.wrap ((↑n : Int) + 1)).toNat
 (IntKind.i64.wrap ((↑n : Int) + 1)).toNat]
 w1_1 fun (e : Ending) (w' : World) =>
 e = Ending.returned (Value.tuple #[]) ∧
 ∀ (c n_2 : Nat) (w1 : World),
 s.size ≤ c →
 NewB w'.drew (Obj.cells (bytesRow s c) 5 ((bytesRow s c).size, (bytesRow s c).size + 1)) n_2 w1 →
 ∃ (I : List Value → World → Prop),
 ∃ (m : List Value → World → Nat),
 I
 [Value.slice (some (Addr.mk n_1 0 none)) (IntKind.i64.wrap ((↑n : Int) + 1)).toNat
 (IntKind.i64.wrap ((↑n : Int) + 1)).toNat,
 Value.int IntKind.i64 0]
 w1 ∧
 ∀ (p : Option Addr) (n c : Nat) (x : Int) (w' : World),
 I [Value.slice p n c, Value.int IntKind.i64 x] w' →
 bsp (decide (x < (↑s.size : Int)))
 ((0 ≤ x ∧ x < (↑s.size : Int)) ∧
 ∃ (x_1 : Int),
 w'.cell? (Addr.mk n_2 (0 + x.toNat) none) = some (Value.int IntKind.u8 x_1) ∧
 (0 ≤ (↑n : Int) ∧
 (↑n : Int) ≤ (↑n : Int) ∧
 (↑1 : Int) * (↑n : Int) ≤ 281474976710656 ∧ (↑n : Int) ≤ 9223372036854775807) ∧
 ∀ (n_3 : Nat) (w1 : World),
 NewB w' (Obj.cells (madeCells #[Value.bool false] ((↑n : Int).toNat * 1)) 4) n_3 w1 →
 ∃ (p_1 : Option Addr),
 ∃ (n_4 : Nat),
 ∃ (c_1 : Nat),
 w1.cell? (Addr.mk b (o + 1) none) = some (Value.slice p_1 n_4 c_1) ∧
 ∃ (I_1 : List Value → World → Prop),
 ∃ (m_1 : List Value → World → Nat),
 I_1 [Value.int IntKind.i64 0] w1 ∧
 ∀ (x_2 : Int) (w'_1 : World),
 I_1 [Value.int IntKind.i64 x_2] w'_1 →
 bsp (decide (x_2 < (↑n_4 : Int)))
 (∃ (J : List Value → World → Prop),
 (nn true p_1 fun (b o : Nat) =>
 (0 ≤ x_2 ∧ x_2 < (↑n_4 : Int)) ∧
 ∃ (x : Value),
 w'_1.cell? (Addr.mk b (o + x_2.toNat) none) = some x ∧
 nn true p fun (b o : Nat) =>
 (0 ≤ x_2 ∧ x_2 < (↑n : Int)) ∧
 ∃ (x_3 : Bool),
 w'_1.cell? (Addr.mk b (o + x_2.toNat) none) = some (Value.bool x_3) ∧
 bsp (!!x_3)
 (CallsS Tryz.prog 91 #[x, Value.int IntKind.u8 x_1] w'_1
 fun (e : Ending) (w' : World) =>
 ∃ (x_4 : Bool),
 e = Ending.returned (Value.bool x_4) ∧
 bsp (false || !x_4) (J [] w')
 (CallsS Tryz.prog 92 #[x] w' fun (e : Ending) (w' : World) =>
 ∃ (x : Bool),
 e = Ending.returned (Value.bool x) ∧
 bsp x
 ((0 ≤ x_2 ∧ x_2 < (↑(↑n : Int).toNat : Int)) ∧
 ((∃ (u : Value),
 w'.cell? (Addr.mk n_3 (0 + x_2.toNat) none) = some u) ∧
 w'.frozen? (Addr.mk n_3 (0 + x_2.toNat) none) = false) ∧
 ∀ (w1 : World),
 PutB w' n_3 (0 + x_2.toNat) [Value.bool true] w1 → J [] w1)
 ((0 ≤ IntKind.i64.wrap (x_2 + 1) ∧
 IntKind.i64.wrap (x_2 + 1) < (↑(↑n : Int).toNat : Int)) ∧
 ((∃ (u : Value),
 w'.cell?
 (Addr.mk n_3 (0 + (IntKind.i64.wrap (x_2 + 1)).toNat)
 none) =
 some u) ∧
 w'.frozen?
 (Addr.mk n_3 (0 + (IntKind.i64.wrap (x_2 + 1)).toNat)
 none) =
 false) ∧
 ∀ (w1 : World),
 PutB w' n_3 (0 + (IntKind.i64.wrap (x_2 + 1)).toNat)
 [Value.bool true] w1 →
 J [] w1)))
 (J [] w'_1)) ∧
 ∀ (w' : World),
 J [] w' →
 I_1 [Value.int IntKind.i64 (IntKind.i64.wrap (x_2 + 1))] w' ∧
 m_1 [Value.int IntKind.i64 (IntKind.i64.wrap (x_2 + 1))] w' <
 m_1 [Value.int IntKind.i64 x_2] w'_1)
 (CallsS Tryz.prog 90
 #[Value.pointer (some (Addr.mk b o none)),
 Value.slice (some (Addr.mk n_3 0 none)) (↑n : Int).toNat (↑n : Int).toNat]
 w'_1 fun (e : Ending) (w'_2 : World) =>
 e = Ending.returned (Value.tuple #[]) ∧
 I
 [Value.slice (some (Addr.mk n_3 0 none)) (↑n : Int).toNat (↑n : Int).toNat,
 Value.int IntKind.i64 (IntKind.i64.wrap (x + 1))]
 w'_2 ∧
 m
 [Value.slice (some (Addr.mk n_3 0 none)) (↑n : Int).toNat (↑n : Int).toNat,
 Value.int IntKind.i64 (IntKind.i64.wrap (x + 1))]
 w'_2 <
 m [Value.slice p n c, Value.int IntKind.i64 x] w'))
 (∃ (p_1 : Option Addr),
 ∃ (n_3 : Nat),
 ∃ (c : Nat),
 w'.cell? (Addr.mk b (o + 1) none) = some (Value.slice p_1 n_3 c) ∧
 nn true p fun (b o : Nat) =>
 (0 ≤ (↑n_3 : Int) ∧ (↑n_3 : Int) < (↑n : Int)) ∧
 ∃ (x : Bool),
 w'.cell? (Addr.mk b (o + (↑n_3 : Int).toNat) none) = some (Value.bool x) ∧
 R (Ending.returned (Value.bool x)) w')
theorem vc_match (b : Nat) (o : Nat) (s : ByteArray) (w : World) (R : Ending → World → Prop) (h : VC_match b o s w R) : Calls Tryz.prog 68 ([Value.pointer
    (some { block := b, off := o }),
  Value.string s] : List Value).toArray w R := by
  have e : execR { P := Tryz.prog, loops := [(7, [(5, Ck.slice), (28, Ck.int IntKind.i64)]), (11, [(40, Ck.int IntKind.i64)])], pur := pur1, tails := [], joins := [(17, [])], boxes := [] } Tryz.f68.results.toList R (Tryz.f68.body.getD .skip) (initF [Value.pointer
    (some { block := b, off := o }),
  Value.string
    s] (Tryz.f68.ntmps - ([Value.pointer (some { block := b, off := o }),
  Value.string s] : List Value).length)) w = VC_match b o s w R := by kernel_rfl
  have hb : Tryz.f68.body = some (Tryz.f68.body.getD .skip) := by kernel_rfl
  exact calls_of_exec' (P := Tryz.prog) (fn := Tryz.f68) (c := Tryz.f68.body.getD .skip) (args := [Value.pointer
    (some { block := b, off := o }),
  Value.string s]) (w := w) (R := R) pur1_ok Tryz.func68 hb e h

end Go.Proofs.YtkkfnlehlkiejaaGreatDoor

/- The contracts of wildmat's spread and Match, by plain functions. The pattern lies in the memory; at most 2^20 elements. -/
namespace Go.Proofs.YtkkfnlehlkiejaaGreatDoor
open Go.RowKit

/-! ### Rows of bools -/
def bools (f : Nat → Bool) (n : Nat) : Array Value := ((List.range n).map fun j => Value.bool (f j)).toArray
theorem bools_size (f : Nat → Bool) (n : Nat) : (bools f n).size = n := by simp [bools]
theorem bools_get (f : Nat → Bool) (n k : Nat) (h : k < n) : (bools f n)[k]? = some (.bool (f k)) := by
  simp [bools, h]
theorem bools_congr {f g : Nat → Bool} {n : Nat} (h : ∀ j, j < n → f j = g j) : bools f n = bools g n := by
  unfold bools
  congr 1
  exact List.map_congr_left fun j hj => by rw [h j (List.mem_range.1 hj)]
theorem bools_put {f g : Nat → Bool} {n k : Nat} {b : Bool} (h : ∀ j, j < n → g j = if j = k then b else f j) : (putL (bools f n).toList k [.bool b]).toArray = bools g n := by
  simp only [putL]
  apply Array.ext'
  apply List.ext_getElem?
  intro i
  simp only [bools, List.getElem?_set, List.getElem?_map]
  rcases Nat.lt_or_ge i n with hi | hi
  · by_cases e : k = i
    · subst e
      simp [hi, h k hi]
    · have : ¬ i = k := fun x => e x.symm
      simp [hi, e, h i hi, this]
  · simp [hi]; omega
theorem bools_made (n : Nat) : madeCells #[Value.bool false] (n * 1) = bools (fun _ => false) n := by
  apply Array.ext'
  rw [toList_madeCells_one]
  simp only [bools, Nat.mul_one]
  apply List.ext_getElem?
  intro i
  rcases Nat.lt_or_ge i n with hi | hi <;> simp [hi]

def elS (els : List El) (j : Nat) : Bool := match els[j]? with | some e => e.isStar | none => false
def elH (els : List El) (j : Nat) (c : Int) : Bool := match els[j]? with | some e => hasB e.chars c | none => false
/-- What is reached because a star stands for nothing. -/
def spF (st : Nat → Bool) (m : Nat → Bool) : Nat → Bool
  | 0 => m 0
  | i + 1 => m (i + 1) || (st i && spF st m i)

theorem spread_any {D : Nat → Prop} {w : World} {b : Nat} {s : ByteArray} {els : List El} {g : Nat} {f : Nat → Bool} (hp : PatR D w b s els) (hl : els.length ≤ 1048576) (hg : w.heap[g]? = some (.cells (bools f (els.length + 1)) 4 (0, 0))) (hD : ∀ k, D k → k ≠ g) (c : Nat) :
    Calls Tryz.prog 90 #[.pointer (some ⟨b, 0, none⟩), .slice (some ⟨g, 0, none⟩) (els.length + 1) c] w fun e w' =>
      e = .returned (.tuple #[]) ∧ w'.heap[g]? = some (.cells (bools (spF (elS els) f) (els.length + 1)) 4 (0, 0)) ∧ Kp (· = g) w w' := by
  refine vc_spread b 0 _ _ c w _ ?_
  unfold VC_spread
  obtain ⟨p, n, c', hb, hDb, ho, hDo⟩ := hp
  have hn := ho.1
  rw [List.length_map] at hn
  have hn : n = els.length := by omega
  subst hn
  refine ⟨p, els.length, c', by rw [Nat.zero_add]; exact cell_at hb rfl, ?_⟩
  refine count1 els.length (by omega) (fun k w' => w'.heap[g]? = some (.cells (bools (fun j => if j ≤ k then spF (elS els) f j else f j) (els.length + 1)) 4 (0, 0)) ∧ Kp (· = g) w w') ⟨?_, .refl _ _⟩ ?_
  · rw [hg]
    congr 2
    apply bools_congr
    intro j _
    by_cases h : j ≤ 0
    · obtain rfl : j = 0 := by omega
      rfl
    · rw [if_neg h]
  · intro I m k w' hk ⟨hg', hw⟩ next
    refine bsp_intro (fun hlt => ?_) (fun hge => ?_)
    · have hlt : k < els.length := by simpa using hlt
      have ho' : w'.ownsRow 0 167 1 (.slice p els.length c') els.length (els.map El.val) := owns_kp ho hw (fun k hk e => hD k (hDo k hk) e)
      obtain ⟨q, v, hp, hv, hc⟩ := own_cell ho' hlt
      subst hp
      obtain ⟨x, hx⟩ : ∃ x, els[k]? = some x := ⟨_, List.getElem?_eq_getElem hlt⟩
      rw [List.getElem?_map, hx] at hv
      simp only [Option.map_some, Option.some.injEq] at hv
      subst hv
      have e0 : (k : Int).toNat = k := by omega
      have e1 : (IntKind.i64.wrap ((k : Int) + 1)).toNat = k + 1 := by rw [wr64 (by omega) (by omega)]; omega
      have e2 : IntKind.i64.wrap ((k : Int) + 1) = ((k + 1 : Nat) : Int) := by rw [wr64 (by omega) (by omega)]; omega
      show (0 ≤ (k : Int) ∧ (k : Int) < (els.length : Int)) ∧ _
      refine ⟨⟨by omega, by omega⟩, x.val, by rw [e0]; exact hc, ?_⟩
      show (0 ≤ (k : Int) ∧ (k : Int) < ((els.length + 1 : Nat) : Int)) ∧ _
      refine ⟨⟨by omega, by omega⟩, _, by rw [e0, Nat.zero_add]; exact cell_at hg' (bools_get _ _ _ (by omega)), ?_⟩
      rw [if_pos (Nat.le_refl k)]
      have keep : ∀ w2, Kp (· = g) w w2 → w2.heap[g]? = some (.cells (bools (fun j => if j ≤ k then spF (elS els) f j else f j) (els.length + 1)) 4 (0, 0)) → (elS els k && spF (elS els) f k) = false → w2.heap[g]? = some (.cells (bools (fun j => if j ≤ k + 1 then spF (elS els) f j else f j) (els.length + 1)) 4 (0, 0)) ∧ Kp (· = g) w w2 := fun w2 h1 h2 h3 => by
        refine ⟨?_, h1⟩
        rw [h2]
        congr 2
        apply bools_congr
        intro j _
        by_cases hj : j ≤ k
        · rw [if_pos hj, if_pos (by omega)]
        · rw [if_neg hj]
          by_cases hj1 : j ≤ k + 1
          · obtain rfl : j = k + 1 := by omega
            rw [if_pos hj1]
            simp [spF, h3]
          · rw [if_neg hj1]
      refine bsp_intro (fun hm => ⟨(isStar_any x w').mono fun e w2 ⟨he, hk2⟩ => ⟨_, he, ?_⟩⟩) (fun hm => ?_)
      · have hg2 := hk2.blk hg' (fun h => h)
        have hw2 : Kp (· = g) w w2 := hw.trans (hk2.mono fun _ _ h => h.elim)
        have hst : elS els k = x.isStar := by simp [elS, hx]
        refine bsp_intro (fun h4 => ?_) (fun h4 => ?_)
        · have h4 : x.isStar = true := by simpa using h4
          show (0 ≤ IntKind.i64.wrap ((k : Int) + 1) ∧ IntKind.i64.wrap ((k : Int) + 1) < ((els.length + 1 : Nat) : Int)) ∧ _
          rw [e1, e2]
          refine ⟨⟨by omega, by omega⟩, by rw [Nat.zero_add]; exact cell_wr hg2 (by rw [bools_size]; omega), fun w3 hp3 => ?_⟩
          have hg3 := hp3.block hg2
          rw [Nat.zero_add] at hg3
          rw [← e2]
          refine next (by omega) w3 ⟨?_, hw2.trans hp3.kp⟩
          rw [hg3]
          congr 2
          apply bools_put
          intro j _
          by_cases hj : j = k + 1
          · subst hj
            simp [spF, hst, h4, hm]
          · rw [if_neg hj]
            by_cases hj1 : j ≤ k
            · rw [if_pos hj1, if_pos (by omega)]
            · rw [if_neg hj1, if_neg (by omega)]
        · have h4 : x.isStar = false := by simpa using h4
          exact next (by omega) w2 (keep w2 hw2 hg2 (by simp [hst, h4]))
      · exact next (by omega) w' (keep w' hw hg' (by rw [hm]; simp))
    · have hge : ¬ k < els.length := by simpa using hge
      obtain rfl : k = els.length := by omega
      refine ⟨rfl, ?_, hw⟩
      rw [hg']
      congr 2
      apply bools_congr
      intro j hj
      rw [if_pos (by omega)]

/-! ### Match -/
/-- What is reached behind a character. -/
def stpF (els : List El) (c : Int) (f : Nat → Bool) (j : Nat) : Bool :=
  (elS els j && f j && elH els j c) || (match j with | 0 => false | i + 1 => !elS els i && f i && elH els i c)
/-- What is reached behind k characters. -/
def runF (els : List El) (s : ByteArray) : Nat → Nat → Bool
  | 0 => spF (elS els) (fun j => j == 0)
  | k + 1 => spF (elS els) (stpF els (at8 s k) (runF els s k))
def matchB (els : List El) (s : ByteArray) : Bool := runF els s s.size els.length
/-- The marks of the next row behind k elements. -/
def nxF (els : List El) (c : Int) (f : Nat → Bool) (k j : Nat) : Bool :=
  (decide (j < k) && (elS els j && f j && elH els j c)) || (match j with | 0 => false | i + 1 => decide (i < k) && (!elS els i && f i && elH els i c))
theorem nxF_end (els : List El) (c : Int) (f : Nat → Bool) (j : Nat) (hj : j < els.length + 1) : nxF els c f els.length j = stpF els c f j := by
  unfold nxF stpF
  have h0 : ∀ j, ¬ j < els.length → elS els j = false := fun j h => by simp [elS, List.getElem?_eq_none (Nat.le_of_not_lt h)]
  cases j with
  | zero =>
    by_cases h : 0 < els.length
    · simp [h]
    · simp [h, h0 0 h]
  | succ i =>
    have hi : i < els.length := by omega
    by_cases h : i + 1 < els.length
    · simp [h, hi]
    · simp [h, hi, h0 _ h]
theorem nxF_succ (els : List El) (c : Int) (f : Nat → Bool) (i j : Nat) : nxF els c f (i + 1) j = if (elS els i = true ∧ j = i ∨ elS els i = false ∧ j = i + 1) ∧ (f i && elH els i c) = true then true else nxF els c f i j := by
  have d1 : ∀ a : Nat, decide (a < i + 1) = (decide (a < i) || decide (a = i)) := fun a => by rw [Bool.eq_iff_iff]; simp; omega
  unfold nxF
  by_cases e1 : j = i
  · subst e1
    have e3 : ¬ j = j + 1 := by omega
    simp only [d1, e3, Nat.lt_irrefl, and_false, or_false, and_true, decide_true, decide_false]
    cases j with
    | zero => cases elS els 0 <;> cases f 0 <;> cases elH els 0 c <;> simp
    | succ j =>
      have : ¬ j = j + 1 := by omega
      have h2 : decide (j < j + 1) = true := by simp
      simp only [h2, this, decide_false]
      cases elS els (j + 1) <;> cases f (j + 1) <;> cases elH els (j + 1) c <;> simp
  · by_cases e2 : j = i + 1
    · subst e2
      have e3 : ¬ i + 1 < i := by omega
      simp only [d1, e1, e3, Nat.lt_irrefl, and_false, false_or, and_true, decide_true, decide_false]
      cases elS els i <;> cases f i <;> cases elH els i c <;> simp
    · simp only [d1, e1, e2, and_false, or_false, false_and, if_false, decide_false]
      cases j with
      | zero => simp
      | succ j =>
        have : ¬ j = i := by omega
        simp [this]
theorem spF_congr {st m m' : Nat → Bool} : ∀ (j : Nat), (∀ i, i ≤ j → m i = m' i) → spF st m j = spF st m' j
  | 0, h => h 0 (Nat.le_refl _)
  | j + 1, h => by simp only [spF]; rw [h (j + 1) (Nat.le_refl _), spF_congr j (fun i hi => h i (by omega))]
theorem byte_cell {w : World} {g : Nat} {s : ByteArray} {c : Nat} {t : TypeId} {fz : Nat × Nat} (h : w.heap[g]? = some (.cells (bytesRow s c) t fz)) {k : Nat} (hk : k < s.size) : w.cell? ⟨g, 0 + k, none⟩ = some (.int .u8 (at8 s k)) := by
  rw [cell_block h, Nat.zero_add, bytesRow_at s c k hk, at8_lt s k hk]
  rfl

set_option maxHeartbeats 400000 in
theorem match_any {D : Nat → Prop} {w : World} {b : Nat} {t : ByteArray} {els : List El} (hp : PatR D w b t els) (hl : els.length ≤ 1048576) (s : ByteArray) (hs : s.size ≤ 9223372036854775807) :
    Calls Tryz.prog 68 #[.pointer (some ⟨b, 0, none⟩), .string s] w fun e w' => e = .returned (.bool (matchB els s)) ∧ K0 w w' := by
  refine vc_match b 0 s w _ ?_
  unfold VC_match
  have hp0 : PatR (fun k => k < w.heap.size) w b t els := hp.mono fun k _ h => h
  obtain ⟨p, n, c, hb, hDb, ho, hDo⟩ := hp
  have hn := ho.1
  rw [List.length_map] at hn
  have hn : n = els.length := by omega
  subst hn
  have e1 : IntKind.i64.wrap ((els.length : Int) + 1) = ((els.length + 1 : Nat) : Int) := by rw [wr64 (by omega) (by omega)]; omega
  refine ⟨p, els.length, c, by rw [Nat.zero_add]; exact cell_at hb rfl, ?_⟩
  rw [e1]
  have e2 : ((els.length + 1 : Nat) : Int).toNat = els.length + 1 := by omega
  rw [e2]
  refine ⟨⟨by omega, by omega, by omega, by omega⟩, fun n_1 w1 hn1 => ⟨⟨by omega, by omega⟩, ?_⟩⟩
  rw [bools_made] at hn1
  have hg1 := hn1.block
  refine ⟨cell_wr hg1 (by rw [bools_size]; omega), fun w2 hp2 => ?_⟩
  have hg2 := hp2.block hg1
  rw [bools_put (g := fun j => j == 0) (fun j _ => by by_cases h : j = 0 <;> simp [h])] at hg2
  have hnew : w.heap.size ≤ n_1 := hn1.ge
  have hw2 : K0 w w2 := (hn1.kp _).fresh hp2.kp (fun i hi e => by omega)
  have hp2' := hp0.kp hw2 (fun k hk _ h => h)
  refine ⟨(spread_any hp2' hl hg2 (fun k hk e => by omega) _).mono fun e w3 ⟨he, hg3, hk3⟩ => ⟨he, fun c1 n_2 w4 hc1 hn4 => ?_⟩⟩
  have hw3 : K0 w w3 := hw2.fresh hk3 (fun i hi e => by omega)
  have hw4 : K0 w w4 := hw3.trans ((hn4.kp _).of_drew)
  have hg4 := (hn4.kp (fun _ => False)).blk (blk_drew hg3) (fun h => h)
  have hb4 := hn4.block
  have hn2 : w.heap.size ≤ n_2 := Nat.le_trans hw3.size hn4.ge
  refine ⟨fun vs w' => ∃ (g k : Nat), vs = [.slice (some ⟨g, 0, none⟩) (els.length + 1) (els.length + 1), .int .i64 k] ∧ k ≤ s.size ∧ w.heap.size ≤ g ∧ g ≠ n_2 ∧ w'.heap[g]? = some (.cells (bools (runF els s k) (els.length + 1)) 4 (0, 0)) ∧
      w'.heap[n_2]? = some (.cells (bytesRow s c1) 5 ((bytesRow s c1).size, (bytesRow s c1).size + 1)) ∧ K0 w w', fun vs _ => (match vs with | [_, .int _ x] => s.size - x.toNat | _ => 0),
    ⟨n_1, 0, rfl, by omega, hnew, fun e => by have h9 := block_lt hg3; have h8 := hn4.ge; have : w3.drew.heap.size = w3.heap.size := rfl; omega, hg4, hb4, hw4⟩, fun q nn cc x w' ⟨g, k, hv, hk, hg, hgn, hgw, hbw, hw'⟩ => ?_⟩
  simp only [List.cons.injEq, Value.int.injEq, true_and, Value.slice.injEq, and_true] at hv
  obtain ⟨⟨rfl, rfl, rfl⟩, rfl⟩ := hv
  have hpw := hp0.kp hw' (fun k hk _ h => h)
  have e0 : (k : Int).toNat = k := by omega
  have hpw' := hpw
  obtain ⟨p', n', c', hb', hDb', ho', hDo'⟩ := hpw'
  have hn' := ho'.1
  rw [List.length_map] at hn'
  have hn' : n' = els.length := by omega
  subst hn'
  refine bsp_intro (fun hlt => ⟨⟨by omega, by simpa using hlt⟩, ?_⟩) (fun hge => ?_)
  · have hlt : k < s.size := by simpa using hlt
    refine ⟨at8 s k, by rw [e0]; exact byte_cell hbw hlt, ⟨by omega, by omega, by omega, by omega⟩, fun n_3 w5 hn5 => ?_⟩
    rw [e2] at hn5 ⊢
    rw [bools_made] at hn5
    have hn3 : w.heap.size ≤ n_3 := Nat.le_trans hw'.size hn5.ge
    have hg3n : g < n_3 := Nat.lt_of_lt_of_le (block_lt hgw) hn5.ge
    have hn23 : n_2 < n_3 := Nat.lt_of_lt_of_le (block_lt hbw) hn5.ge
    have hw5 : K0 w w5 := hw'.trans (hn5.kp _)
    have hK5 := hn5.kp (fun _ => False)
    refine ⟨p', els.length, c', by rw [Nat.zero_add]; exact cell_at (hK5.blk hb' (fun h => h)) rfl, ?_⟩
    refine count1 els.length (by omega) (fun i w6 => w6.heap[n_3]? = some (.cells (bools (nxF els (at8 s k) (runF els s k) i) (els.length + 1)) 4 (0, 0)) ∧ Kp (· = n_3) w5 w6) ⟨?_, .refl _ _⟩ ?_
    · rw [hn5.block]
      congr 2
      apply bools_congr
      intro j _
      cases j <;> simp [nxF]
    · intro I m i w6 hi ⟨h6, hk6⟩ next
      have hw6 : K0 w w6 := hw5.fresh hk6 (fun i hi e => by omega)
      have ho6 : w6.ownsRow 0 167 1 (.slice p' els.length c') els.length (els.map El.val) := owns_kp (owns_kp ho' hK5 (fun _ _ h => h)) hk6 (fun k hk e => by have := hDo' k hk; omega)
      have hg6 := hk6.blk (hK5.blk hgw (fun h => h)) (fun e => by omega)
      have hb6 := hk6.blk (hK5.blk hbw (fun h => h)) (fun e => by omega)
      refine bsp_intro (fun hlt6 => ?_) (fun hge6 => ?_)
      · have hlt6 : i < els.length := by simpa using hlt6
        have f0 : (i : Int).toNat = i := by omega
        have f1 : IntKind.i64.wrap ((i : Int) + 1) = ((i + 1 : Nat) : Int) := by rw [wr64 (by omega) (by omega)]; omega
        have f2 : ((i + 1 : Nat) : Int).toNat = i + 1 := by omega
        refine ⟨fun _ w7 => w7.heap[n_3]? = some (.cells (bools (nxF els (at8 s k) (runF els s k) (i + 1)) (els.length + 1)) 4 (0, 0)) ∧ Kp (· = n_3) w5 w7, ?_, fun w7 h7 => next hlt6 w7 h7⟩
        obtain ⟨q6, v, hpq, hv, hc6⟩ := own_cell ho6 hlt6
        subst hpq
        obtain ⟨x, hx⟩ : ∃ x, els[i]? = some x := ⟨_, List.getElem?_eq_getElem hlt6⟩
        rw [List.getElem?_map, hx] at hv
        simp only [Option.map_some, Option.some.injEq] at hv
        subst hv
        have hst : elS els i = x.isStar := by simp [elS, hx]
        have hha : elH els i (at8 s k) = hasB x.chars (at8 s k) := by simp [elH, hx]
        have step : ∀ j, nxF els (at8 s k) (runF els s k) (i + 1) j = if (elS els i = true ∧ j = i ∨ elS els i = false ∧ j = i + 1) ∧ (runF els s k i && elH els i (at8 s k)) = true then true else nxF els (at8 s k) (runF els s k) i j := by
          exact fun j => nxF_succ _ _ _ _ _
        have keep : ∀ w7, Kp (· = n_3) w5 w7 → w7.heap[n_3]? = some (.cells (bools (nxF els (at8 s k) (runF els s k) i) (els.length + 1)) 4 (0, 0)) → (runF els s k i && elH els i (at8 s k)) = false →
            w7.heap[n_3]? = some (.cells (bools (nxF els (at8 s k) (runF els s k) (i + 1)) (els.length + 1)) 4 (0, 0)) ∧ Kp (· = n_3) w5 w7 := fun w7 h1 h2 h3 => by
          refine ⟨?_, h1⟩
          rw [h2]
          congr 2
          apply bools_congr
          intro j _
          rw [step j, if_neg (fun h => by rw [h3] at h; exact absurd h.2 (by decide))]
        show (0 ≤ (i : Int) ∧ (i : Int) < (els.length : Int)) ∧ _
        refine ⟨⟨by omega, by omega⟩, x.val, by rw [f0]; exact hc6, ?_⟩
        show (0 ≤ (i : Int) ∧ (i : Int) < ((els.length + 1 : Nat) : Int)) ∧ _
        refine ⟨⟨by omega, by omega⟩, _, by rw [f0, Nat.zero_add]; exact cell_at hg6 (bools_get _ _ _ (by omega)), ?_⟩
        rw [Bool.not_not]
        refine bsp_intro (fun hr => ⟨(stands_any x (at8 s k) w6).mono fun e w7 ⟨he, hk7⟩ => ⟨_, he, ?_⟩⟩) (fun hr => keep w6 hk6 h6 (by rw [hr]; rfl))
        have h7 := hk7.blk h6 (fun h => h)
        have hk7' : Kp (· = n_3) w5 w7 := hk6.trans (hk7.mono fun _ _ h => h.elim)
        refine bsp_intro (fun hh => keep w7 hk7' h7 (by rw [hr, hha]; simpa using hh)) (fun hh => ⟨(isStar_any x w7).mono fun e w8 ⟨he, hk8⟩ => ⟨_, he, ?_⟩⟩)
        have hh : hasB x.chars (at8 s k) = true := by simpa using hh
        have h8 := hk8.blk h7 (fun h => h)
        have hk8' : Kp (· = n_3) w5 w8 := hk7'.trans (hk8.mono fun _ _ h => h.elim)
        refine bsp_intro (fun hs8 => ⟨⟨by omega, by omega⟩, by rw [f0, Nat.zero_add]; exact cell_wr h8 (by rw [bools_size]; omega), fun w9 hp9 => ⟨?_, hk8'.trans hp9.kp⟩⟩)
          (fun hs8 => ⟨by rw [f1]; exact ⟨by omega, by omega⟩, by rw [f1, f2, Nat.zero_add]; exact cell_wr h8 (by rw [bools_size]; omega), fun w9 hp9 => ⟨?_, hk8'.trans hp9.kp⟩⟩)
        · have := hp9.block h8
          rw [f0, Nat.zero_add] at this
          rw [this]
          congr 2
          apply bools_put
          intro j _
          rw [step j]
          by_cases hj : j = i
          · rw [if_pos ⟨.inl ⟨by rw [hst]; exact hs8, hj⟩, by rw [hr, hha, hh]; rfl⟩, if_pos hj]
          · rw [if_neg (fun h => ?_), if_neg hj]
            rcases h.1 with h | h
            · exact hj h.2
            · rw [hst, hs8] at h; exact absurd h.1 (by decide)
        · have := hp9.block h8
          rw [f1, f2, Nat.zero_add] at this
          rw [this]
          congr 2
          apply bools_put
          intro j _
          rw [step j]
          by_cases hj : j = i + 1
          · rw [if_pos ⟨.inr ⟨by rw [hst]; exact hs8, hj⟩, by rw [hr, hha, hh]; rfl⟩, if_pos hj]
          · rw [if_neg (fun h => ?_), if_neg hj]
            rcases h.1 with h | h
            · rw [hst, hs8] at h; exact absurd h.1 (by decide)
            · exact hj h.2
      · have hge6 : ¬ i < els.length := by simpa using hge6
        obtain rfl : i = els.length := by omega
        have hp6 := hp0.kp hw6 (fun k hk _ h => h)
        refine ⟨(spread_any hp6 hl h6 (fun k hk e => by omega) _).mono fun e w7 ⟨he, hg7, hk7⟩ => ⟨he, ?_⟩⟩
        have hw7 : K0 w w7 := hw6.fresh hk7 (fun i hi e => by omega)
        have f1 : IntKind.i64.wrap ((k : Int) + 1) = ((k + 1 : Nat) : Int) := by rw [wr64 (by omega) (by omega)]; omega
        rw [f1]
        refine ⟨⟨n_3, k + 1, rfl, by omega, hn3, by omega, ?_, hk7.blk hb6 (fun e => by omega), hw7⟩, by simp; omega⟩
        rw [hg7]
        congr 2
        apply bools_congr
        intro j hj
        exact spF_congr j fun i hi => nxF_end els _ _ i (by omega)
  · have hge : ¬ k < s.size := by simpa using hge
    obtain rfl : k = s.size := by omega
    refine ⟨p', els.length, c', by rw [Nat.zero_add]; exact cell_at hb' rfl, ?_⟩
    show (0 ≤ (els.length : Int) ∧ (els.length : Int) < ((els.length + 1 : Nat) : Int)) ∧ _
    have f0 : (els.length : Int).toNat = els.length := by omega
    refine ⟨⟨by omega, by omega⟩, _, by rw [f0, Nat.zero_add]; exact cell_at hgw (bools_get _ _ _ (by omega)), rfl, hw'⟩

end Go.Proofs.YtkkfnlehlkiejaaGreatDoor

/- Compiled patterns are short, errors are not 0 (plain). No condition. -/
namespace Go.Proofs.YtkkfnlehlkiejaaGreatDoor

theorem compS_len (s : ByteArray) : ∀ (f k : Nat) (acc els : List El), compS s f k acc = .inl els → els.length ≤ acc.length + f
  | 0, k, acc, els, h => by simp [compS] at h; subst h; omega
  | f + 1, k, acc, els, h => by
    unfold compS at h
    have ih := compS_len s f
    repeat' split at h
    all_goals first
      | (have := ih _ _ _ h; simp at this; omega)
      | (cases h; omega)
      | (cases h)
theorem compileR_len {s : ByteArray} {els : List El} (h : compileR s = .inl els) : els.length ≤ 80 := by
  unfold compileR at h
  split at h
  · cases h
  · split at h
    · cases h
    · have := compS_len s _ _ _ _ h; simp at this; omega
theorem compileR_off (s : ByteArray) (o : Nat) (e : Int) (h : compileR s = .inr (o, e)) : o ≤ 80 ∧ e ≠ 0 := by
  have key : ∀ (f k : Nat) (acc : List El), s.size ≤ 80 → compS s f k acc = .inr (o, e) → o ≤ 80 ∧ e ≠ 0 := by
    intro f
    induction f with
    | zero => intro k acc _ h; simp [compS] at h
    | succ f ih =>
      intro k acc hs h
      unfold compS at h
      repeat' split at h
      all_goals first
        | exact ih _ _ hs h
        | (simp at h; obtain ⟨rfl, rfl⟩ := h; exact ⟨by omega, by decide⟩)
        | (cases h)
  unfold compileR at h
  split at h
  · cases h; exact ⟨by omega, by decide⟩
  · split at h
    · cases h; exact ⟨by omega, by decide⟩
    · exact key _ _ _ (by omega) h


end Go.Proofs.YtkkfnlehlkiejaaGreatDoor

/- The formulas of functions by the symbolic evaluator, and that each gives the call's contract. Written by a program (gen.py). No condition. -/
namespace Go.Proofs.YtkkfnlehlkiejaaGreatDoor
set_option maxRecDepth 100000
set_option linter.unusedVariables false

def VC_parseList (s : ByteArray) (w : World) (R : Ending → World → Prop) : Prop :=
 bsp (s.toList == [])
 (R (Ending.returned (Value.tuple #[Value.pointer none, Value.int IntKind.i64 0, Value.int IntKind.i64 4])) w)
 (∀ (n : Nat) (w1 : World),
 NewB w (Obj.cells #[Value.string s, Value.slice none 0 0] 116) n w1 →
 CallsS Tryz.prog 59 #[Value.string s, Value.string (ByteArray.mk #[44])] w1 fun (e : Ending) (w' : World) =>
 ∃ (p : Option Addr),
 ∃ (n_1 : Nat),
 ∃ (c : Nat),
 e = Ending.returned (Value.slice p n_1 c) ∧
 ∃ (I : List Value → World → Prop),
 ∃ (m : List Value → World → Nat),
 I [Value.int IntKind.i64 0, Value.int IntKind.i64 0] w' ∧
 ∀ (x x_1 : Int) (w' : World),
 I [Value.int IntKind.i64 x, Value.int IntKind.i64 x_1] w' →
 bsp (decide (x_1 < (↑n_1 : Int)))
 (nn true p fun (b o : Nat) =>
 (0 ≤ x_1 ∧ x_1 < (↑n_1 : Int)) ∧
 ∃ (x_2 : ByteArray),
 w'.cell? (Addr.mk b (o + x_1.toNat) none) = some (Value.string x_2) ∧
 ∃ (p : Option Addr),
 ∃ (n_2 : Nat),
 ∃ (c : Nat),
 w'.cell? (Addr.mk n (0 + 1) none) = some (Value.slice p n_2 c) ∧
 bsp ((↑n_2 : Int) == 64)
 (R
 (Ending.returned
 (Value.tuple #[Value.pointer none, Value.int IntKind.i64 x, Value.int IntKind.i64 9]))
 w')
 (∀ (n_3 : Nat) (w1 : World),
 NewB w' (Obj.cells #[Value.pointer none, Value.int IntKind.i64 0] 120) n_3 w1 →
 WrL w1 n_3 0 2 ∧
 ∀ (w1_1 : World),
 PutB w1 n_3 0 [Value.pointer none, Value.int IntKind.i64 1] w1_1 →
 ∃ (J : List Value → World → Prop),
 bsp (Lib.hasPrefix x_2.data.toList [33])
 (∃ (S : World → Prop),
 S w1_1.drew ∧
 ((0 : Int) ≤ 1 ∧ 1 ≤ (↑x_2.size : Int)) ∧
 ((∃ (u : Value), w1_1.drew.cell? (Addr.mk n_3 (0 + 1) none) = some u) ∧
 w1_1.drew.frozen? (Addr.mk n_3 (0 + 1) none) = false) ∧
 ∀ (w1 : World),
 PutB w1_1.drew n_3 (0 + 1) [Value.int IntKind.i64 2] w1 →
 J [Value.string (x_2.extract 1 x_2.size)] w1)
 (bsp (Lib.hasPrefix x_2.data.toList [64])
 (∃ (S : World → Prop),
 S w1_1.drew ∧
 ((0 : Int) ≤ 1 ∧ 1 ≤ (↑x_2.size : Int)) ∧
 ((∃ (u : Value), w1_1.drew.cell? (Addr.mk n_3 (0 + 1) none) = some u) ∧
 w1_1.drew.frozen? (Addr.mk n_3 (0 + 1) none) = false) ∧
 ∀ (w1 : World),
 PutB w1_1.drew n_3 (0 + 1) [Value.int IntKind.i64 3] w1 →
 J [Value.string (x_2.extract 1 x_2.size)] w1)
 (J [Value.string x_2] w1_1)) ∧
 ∀ (x_3 : ByteArray) (w'_1 : World),
 J [Value.string x_3] w'_1 →
 CallsS Tryz.prog 61 #[Value.string x_3] w'_1 fun (e : Ending) (w'_2 : World) =>
 ∃ (x_4 : Option Addr),
 ∃ (x_5 : Int),
 ∃ (x_6 : Int),
 e =
 Ending.returned
 (Value.tuple
 #[Value.pointer x_4, Value.int IntKind.i64 x_5, Value.int IntKind.i64 x_6]) ∧
 bsp (x_6 != 0)
 (R
 (Ending.returned
 (Value.tuple
 #[Value.pointer none,
 Value.int IntKind.i64
 (IntKind.i64.wrap
 (IntKind.i64.wrap
 (IntKind.i64.wrap (x + (↑x_2.size : Int)) - (↑x_3.size : Int)) +
 x_5)),
 Value.int IntKind.i64 x_6]))
 w'_2)
 (((∃ (u : Value), w'_2.cell? (Addr.mk n_3 0 none) = some u) ∧
 w'_2.frozen? (Addr.mk n_3 0 none) = false) ∧
 ∀ (w1 : World),
 PutB w'_2 n_3 0 [Value.pointer x_4] w1 →
 ∃ (S : World → Prop),
 S w1.drew ∧
 ∃ (p : Option Addr),
 ∃ (n_4 : Nat),
 ∃ (c : Nat),
 (∀ (w' : World),
 S w' → w'.cell? (Addr.mk n (0 + 1) none) = some (Value.slice p n_4 c)) ∧
 ∃ (x_7 : Option Addr),
 ∃ (x_8 : Int),
 (∀ (w' : World),
 S w' → AtL w' n_3 0 [Value.pointer x_7, Value.int IntKind.i64 x_8]) ∧
 ∀ (n_5 : Nat) (w1_2 : World),
 NewB w1.drew
 (Obj.cells #[Value.pointer x_7, Value.int IntKind.i64 x_8] 120) n_5
 w1_2 →
 S w1_2 ∧
 ∃ (base : Nat),
 ∃ (xs : List Value),
 ∃ (news : List Value),
 w1_2.ownsRow base 120 2 (Value.slice p n_4 c) n_4 xs ∧
 news.length = 2 ∧
 SrcP w1_2 (some (Addr.mk n_5 0 none)) news ∧
 n_4 + 1 ≤ 9223372036854775807 ∧
 (n_4 + 1) * 16 ≤ 140737488355328 ∧
 base ≤ w1_2.heap.size ∧
 ∀ (p' : Option Addr) (c' : Nat) (w'_3 : World),
 w'_3.ownsRow base 120 2 (Value.slice p' (n_4 + 1) c')
 (n_4 + 1) (xs ++ news) →
 w1_2.grownBy w'_3 (Value.slice p n_4 c).ownBlock →
 (n_4 + 1 ≤ c → p' = p ∧ c' = c) →
 ((∃ (u : Value),
 w'_3.cell? (Addr.mk n (0 + 1) none) = some u) ∧
 w'_3.frozen? (Addr.mk n (0 + 1) none) = false) ∧
 ∀ (w1 : World),
 PutB w'_3 n (0 + 1) [Value.slice p' (n_4 + 1) c']
 w1 →
 I
 [Value.int IntKind.i64
 (IntKind.i64.wrap
 (x +
 IntKind.i64.wrap ((↑x_2.size : Int) + 1))),
 Value.int IntKind.i64
 (IntKind.i64.wrap (x_1 + 1))]
 w1 ∧
 m
 [Value.int IntKind.i64
 (IntKind.i64.wrap
 (x +
 IntKind.i64.wrap ((↑x_2.size : Int) + 1))),
 Value.int IntKind.i64
 (IntKind.i64.wrap (x_1 + 1))]
 w1 <
 m
 [Value.int IntKind.i64 x,
 Value.int IntKind.i64 x_1]
 w')))
 (R
 (Ending.returned
 (Value.tuple
 #[Value.pointer (some (Addr.mk n 0 none)), Value.int IntKind.i64 0, Value.int IntKind.i64 0]))
 w'))
theorem vc_parseList (s : ByteArray) (w : World) (R : Ending → World → Prop) (h : VC_parseList s w R) : Calls Tryz.prog 35 ([Value.string
    s] : List Value).toArray w R := by
  have e : execR { P := Tryz.prog, loops := [(6, [(6, Ck.int IntKind.i64), (22, Ck.int IntKind.i64)])], pur := pur1, tails := [(12, 3), (14, 3), (19, 6)], joins := [(15, [(10, Ck.str)])], boxes := [] } Tryz.f35.results.toList R (Tryz.f35.body.getD .skip) (initF [Value.string
    s] (Tryz.f35.ntmps - ([Value.string s] : List Value).length)) w = VC_parseList s w R := by kernel_rfl
  have hb : Tryz.f35.body = some (Tryz.f35.body.getD .skip) := by kernel_rfl
  exact calls_of_exec' (P := Tryz.prog) (fn := Tryz.f35) (c := Tryz.f35.body.getD .skip) (args := [Value.string
    s]) (w := w) (R := R) pur1_ok Tryz.func35 hb e h

def VC_verdict (b : Nat) (o : Nat) (s : ByteArray) (w : World) (R : Ending → World → Prop) : Prop :=
 CallsS Tryz.prog 67 #[Value.pointer (some (Addr.mk b o none))] w fun (e : Ending) (w' : World) =>
 ∃ (x : Int),
 e = Ending.returned (Value.int IntKind.i64 x) ∧
 ∃ (I : List Value → World → Prop),
 ∃ (m : List Value → World → Nat),
 I [Value.int IntKind.i64 (IntKind.i64.wrap (x - 1))] w' ∧
 ∀ (x : Int) (w' : World),
 I [Value.int IntKind.i64 x] w' →
 bsp (decide (x ≥ 0))
 (∃ (p : Option Addr),
 ∃ (n : Nat),
 ∃ (c : Nat),
 w'.cell? (Addr.mk b (o + 1) none) = some (Value.slice p n c) ∧
 nn true p fun (b_1 o_1 : Nat) =>
 (0 ≤ x ∧ x < (↑n : Int)) ∧
 ∃ (x_1 : Option Addr),
 w'.cell? (Addr.mk b_1 (o_1 + x.toNat * 2) none) = some (Value.pointer x_1) ∧
 CallsS Tryz.prog 68 #[Value.pointer x_1, Value.string s] w' fun (e : Ending) (w'_1 : World) =>
 ∃ (x_2 : Bool),
 e = Ending.returned (Value.bool x_2) ∧
 bsp x_2
 (∃ (p : Option Addr),
 ∃ (n : Nat),
 ∃ (c : Nat),
 w'_1.cell? (Addr.mk b (o + 1) none) = some (Value.slice p n c) ∧
 nn true p fun (b o : Nat) =>
 (0 ≤ x ∧ x < (↑n : Int)) ∧
 ∃ (x_3 : Int),
 w'_1.cell? (Addr.mk b (o + x.toNat * 2 + 1) none) = some (Value.int IntKind.i64 x_3) ∧
 R (Ending.returned (Value.int IntKind.i64 x_3)) w'_1)
 (I [Value.int IntKind.i64 (IntKind.i64.wrap (x - 1))] w'_1 ∧
 m [Value.int IntKind.i64 (IntKind.i64.wrap (x - 1))] w'_1 < m [Value.int IntKind.i64 x] w'))
 (R (Ending.returned (Value.int IntKind.i64 0)) w')
theorem vc_verdict (b : Nat) (o : Nat) (s : ByteArray) (w : World) (R : Ending → World → Prop) (h : VC_verdict b o s w R) : Calls Tryz.prog 46 ([Value.pointer
    (some { block := b, off := o }),
  Value.string s] : List Value).toArray w R := by
  have e : execR { P := Tryz.prog, loops := [(2, [(5, Ck.int IntKind.i64)])], pur := pur1, tails := [], joins := [], boxes := [] } Tryz.f46.results.toList R (Tryz.f46.body.getD .skip) (initF [Value.pointer
    (some { block := b, off := o }),
  Value.string
    s] (Tryz.f46.ntmps - ([Value.pointer (some { block := b, off := o }),
  Value.string s] : List Value).length)) w = VC_verdict b o s w R := by kernel_rfl
  have hb : Tryz.f46.body = some (Tryz.f46.body.getD .skip) := by kernel_rfl
  exact calls_of_exec' (P := Tryz.prog) (fn := Tryz.f46) (c := Tryz.f46.body.getD .skip) (args := [Value.pointer
    (some { block := b, off := o }),
  Value.string s]) (w := w) (R := R) pur1_ok Tryz.func46 hb e h

end Go.Proofs.YtkkfnlehlkiejaaGreatDoor
