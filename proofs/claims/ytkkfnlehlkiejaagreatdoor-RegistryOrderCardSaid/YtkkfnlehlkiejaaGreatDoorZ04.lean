/- Plain functions on texts (no program in sight): the tests of characters, the errors of a site's name, searches for a first index. No condition. -/
import Derived.Test.YtkkfnlehlkiejaaGreatDoorZ03
import Derived.Test.YtkkfnlehlkiejaaGreatDoorProg
import Derived.Test.YtkkfnlehlkiejaaGreatDoorZ02
import Derived.KernelRfl
namespace Go.Proofs.YtkkfnlehlkiejaaGreatDoor

theorem at8_lt (s : ByteArray) (k : Nat) (h : k < s.size) : at8 s k = (s[k].toNat : Int) := by simp [at8, h]
theorem at8_bd (s : ByteArray) (k : Nat) : 0 ≤ at8 s k ∧ at8 s k ≤ 255 := by
  unfold at8
  split
  · have := s[k].toNat_lt; omega
  · omega

theorem toList_nil (s : ByteArray) : (s.toList == []) = decide (s.size = 0) := by
  have h : s.toList.length = s.size := by rw [ByteArray.toList_eq]; exact s.data.length_toList
  cases hs : s.toList with
  | nil => rw [hs] at h; have h : s.size = 0 := h.symm; rw [h]; rfl
  | cons a r =>
    rw [hs] at h
    have h : s.size = r.length + 1 := h.symm
    have : ¬ s.size = 0 := by omega
    rw [decide_eq_false this]
    rfl
/-- A loop that counts a slot from 0 up to n. -/
theorem count1 {w : World} {F : (List Value → World → Prop) → (List Value → World → Nat) → Int → World → Prop} (n : Nat) (hn : (n : Int) ≤ 9223372036854775807) (J : Nat → World → Prop) (h0 : J 0 w)
    (step : ∀ (I : List Value → World → Prop) (m : List Value → World → Nat) (k : Nat) (w' : World), k ≤ n → J k w' →
      (k < n → ∀ w'', J (k + 1) w'' → I [.int .i64 (IntKind.i64.wrap (k + 1))] w'' ∧ m [.int .i64 (IntKind.i64.wrap (k + 1))] w'' < m [.int .i64 k] w') → F I m k w') :
    ∃ (I : List Value → World → Prop) (m : List Value → World → Nat), I [.int .i64 0] w ∧ ∀ (x : Int) (w' : World), I [.int .i64 x] w' → F I m x w' := by
  refine ⟨fun vs w' => ∃ k : Nat, vs = [.int .i64 k] ∧ k ≤ n ∧ J k w', fun vs _ => (match vs with | [.int _ x] => n - x.toNat | _ => 0), ⟨0, rfl, by omega, h0⟩, fun x w' ⟨k, hv, hk, hJ⟩ => ?_⟩
  have hx : x = (k : Int) := by simpa using hv
  subst hx
  refine step _ _ k w' hk hJ (fun hlt w'' hJ' => ?_)
  rw [show IntKind.i64.wrap ((k : Int) + 1) = ((k + 1 : Nat) : Int) from by rw [wr64 (by omega) (by omega)]; omega]
  exact ⟨⟨k + 1, rfl, by omega, hJ'⟩, by simp; omega⟩

end Go.Proofs.YtkkfnlehlkiejaaGreatDoor

/- The contracts of msgid.Site, feedrule.isDistribution, and of the reference's Site and word. A word's length is in the range of int. -/
namespace Go.Proofs.YtkkfnlehlkiejaaGreatDoor
open Go.RowKit

end Go.Proofs.YtkkfnlehlkiejaaGreatDoor

/- The contract of wildmat.items, by a plain function (which bytes are listed, how long the items are). The text has at most 2^30 bytes. -/
namespace Go.Proofs.YtkkfnlehlkiejaaGreatDoor
open Go.RowKit

/-- The string of one byte. -/
def b1 (c : Int) : ByteArray := ⟨#[c.toNat.toUInt8]⟩
theorem b1_size (c : Int) : (b1 c).size = 1 := rfl
theorem byte_inj {c d : Int} (hc : 0 ≤ c ∧ c ≤ 255) (hd : 0 ≤ d ∧ d ≤ 255) : (d.toNat.toUInt8 == c.toNat.toUInt8) = decide (d = c) := by
  rw [Bool.eq_iff_iff]
  simp only [beq_iff_eq, decide_eq_true_eq]
  constructor
  · intro h
    have h1 : d.toNat.toUInt8.toNat = c.toNat.toUInt8.toNat := by rw [h]
    rw [UInt8.toNat_ofNat', UInt8.toNat_ofNat'] at h1
    omega
  · rintro rfl; rfl
theorem hasB_b1 {a : ByteArray} {c d : Int} (hc : 0 ≤ c ∧ c ≤ 255) (hd : 0 ≤ d ∧ d ≤ 255) : hasB (a ++ b1 c) d = (hasB a d || decide (d = c)) := by
  unfold hasB
  have : (a ++ b1 c).data.toList = a.data.toList ++ [c.toNat.toUInt8] := by
    rw [ByteArray.data_append]; simp [b1]
  rw [this, ← byte_inj hc hd, List.contains_append]
  congr 1
  rw [List.contains_cons]
  simp
theorem b1_bytes {w : World} {n : Nat} {c : Int} (hc : 0 ≤ c ∧ c ≤ 255) {t : TypeId} (h : w.heap[n]? = some (.cells #[.int .u8 c] t (0, 0))) : (b1 c).size = 1 ∧ BytesP w (some (Addr.mk n 0 none)) (b1 c) := by
  refine ⟨rfl, ⟨.inr ⟨n, 0, rfl, ?_⟩⟩⟩
  have : byteCells (b1 c) = [.int .u8 c] := by
    simp only [byteCells, b1, List.map_cons, List.map_nil]
    congr 2
    rw [UInt8.toNat_ofNat']
    omega
  rw [this]
  exact cell_block h 0

def alB (c : Int) : Bool := lowerB c || digitB c
/-- A range of characters begins at an index. -/
def rngB (s : ByteArray) (k : Nat) : Bool := alB (at8 s k) && decide (k + 2 < s.size) && at8 s (k + 1) == 45
/-- A range has ends that don't fit. -/
def badB (c l : Int) : Bool := decide (l < c) || lowerB c != lowerB l || digitB c != digitB l
def singB (s : ByteArray) (k : Nat) : Bool := alB (at8 s k) || at8 s k == 43 || at8 s k == 95 || at8 s k == 46 || (at8 s k == 45 && k == 0)
/-- Which bytes the items at the beginning list, and how long they are. -/
def itemsS (s : ByteArray) : Nat → Nat → (Int → Bool) → (Int → Bool) × Nat
  | 0, k, p => (p, k)
  | f + 1, k, p =>
    if k < s.size then
      if rngB s k = true then
        if badB (at8 s k) (at8 s (k + 2)) = true then (p, k)
        else itemsS s f (k + 3) (fun d => p d || (decide (at8 s k ≤ d) && decide (d ≤ at8 s (k + 2))))
      else if singB s k = true then itemsS s f (k + 1) (fun d => p d || decide (d = at8 s k))
      else (p, k)
    else (p, k)
theorem alB_bd {c : Int} (h : alB c = true) : 0 ≤ c ∧ c ≤ 122 := by
  simp [alB, lowerB, digitB] at h; omega
theorem badB_not {c l : Int} (h : badB c l = false) (hc : alB c = true) : c ≤ l ∧ alB l = true := by
  simp [badB] at h
  obtain ⟨⟨h1, h2⟩, h3⟩ := h
  unfold alB at hc ⊢
  rw [← h2, ← h3]
  exact ⟨by omega, hc⟩

theorem items_any (s : ByteArray) (w : World) (hs : s.size ≤ 1073741824) : Calls Tryz.prog 105 #[.string s] w fun e w' =>
    ∃ x : ByteArray, e = .returned (.tuple #[.string x, .int .i64 (itemsS s s.size 0 (fun _ => false)).2]) ∧ (∀ d, 0 ≤ d → d ≤ 255 → hasB x d = (itemsS s s.size 0 (fun _ => false)).1 d) ∧ x.size ≤ 256 * s.size ∧ K0 w w' := by
  refine vc_items s w _ ?_
  unfold VC_items
  refine ⟨fun vs w' => ∃ (k f : Nat) (cs : ByteArray) (p : Int → Bool), vs = [.int .i64 k, .string cs] ∧ k ≤ s.size ∧ s.size - k ≤ f ∧ itemsS s f k p = itemsS s s.size 0 (fun _ => false) ∧
      cs.size ≤ 256 * k ∧ (∀ d, 0 ≤ d → d ≤ 255 → hasB cs d = p d) ∧ K0 w w', fun vs _ => (match vs with | .int _ x :: _ => s.size - x.toNat | _ => 0),
    ⟨0, s.size, ⟨#[]⟩, fun _ => false, rfl, by omega, by omega, rfl, by simp [ByteArray.size], fun d _ _ => rfl, .refl _ _⟩, fun x x_1 w' ⟨k, f, cs, p, hv, hk, hf, hS, hcs, hp, hw⟩ => ?_⟩
  simp only [List.cons.injEq, Value.int.injEq, true_and, Value.string.injEq, and_true] at hv
  obtain ⟨rfl, rfl⟩ := hv
  have fin : itemsS s f k p = (p, k) → (∃ x : ByteArray, Ending.returned (.tuple #[.string x_1, .int .i64 (k : Int)]) = .returned (.tuple #[.string x, .int .i64 (itemsS s s.size 0 (fun _ => false)).2]) ∧
      (∀ d, 0 ≤ d → d ≤ 255 → hasB x d = (itemsS s s.size 0 (fun _ => false)).1 d) ∧ x.size ≤ 256 * s.size ∧ K0 w w') := fun h => by
    rw [← hS, h]
    exact ⟨x_1, rfl, hp, by omega, hw⟩
  refine bsp_intro (fun hlt => ⟨?_, ?_, ?_⟩) (fun hge => ?_)
  · have : k < s.size := by simpa using hlt
    omega
  · have hlt : k < s.size := by simpa using hlt
    refine gimp_intro fun hg => ?_
    simp only [Bool.and_eq_true, decide_eq_true_eq] at hg
    have h2 := hg.2
    rw [wr64 (by omega) (by omega)] at h2
    rw [wr64 (by omega) (by omega)]
    omega
  · have hlt : k < s.size := by simpa using hlt
    rw [wr64 (x := (k : Int) + 2) (by omega) (by omega), wr64 (x := (k : Int) + 1) (by omega) (by omega), wr64 (x := (k : Int) + 3) (by omega) (by omega)]
    have e1 : ((k : Int) + 1).toNat = k + 1 := by omega
    have e2 : ((k : Int) + 2).toNat = k + 2 := by omega
    have e0 : (k : Int).toNat = k := by omega
    rw [e1, e2, e0]
    obtain ⟨f, rfl⟩ : ∃ g, f = g + 1 := ⟨f - 1, by omega⟩
    have hr : ((lowerB (at8 s k) || digitB (at8 s k)) && decide ((k : Int) + 2 < (s.size : Int)) && at8 s (k + 1) == 45) = rngB s k := by
      unfold rngB alB
      congr 2
      apply decide_eq_decide.2; omega
    rw [hr]
    have hbd := at8_bd s k
    refine bsp_intro (fun h1 => ⟨?_, ?_⟩) (fun h1 => ?_)
    · simp [rngB] at h1; omega
    · have h1' := h1
      simp only [rngB, Bool.and_eq_true, decide_eq_true_eq] at h1'
      have hb : (decide (at8 s (k + 2) < at8 s k) || !lowerB (at8 s k) == lowerB (at8 s (k + 2)) || !digitB (at8 s k) == digitB (at8 s (k + 2))) = badB (at8 s k) (at8 s (k + 2)) := rfl
      rw [hb]
      refine bsp_intro (fun h2 => ?_) (fun h2 => ?_)
      · exact fin (by simp [itemsS, hlt, h1, h2])
      · obtain ⟨hle, hal⟩ := badB_not h2 h1'.1.1
        have hlb := alB_bd hal
        have hcb := alB_bd h1'.1.1
        refine ⟨fun vs w1 => ∃ (j : Nat) (cs : ByteArray), vs = [.int .u8 (at8 s k + j), .string cs] ∧ at8 s k + j ≤ at8 s (k + 2) + 1 ∧ cs.size ≤ 256 * k + j ∧
            (∀ d, 0 ≤ d → d ≤ 255 → hasB cs d = (p d || (decide (at8 s k ≤ d) && decide (d < at8 s k + j)))) ∧ K0 w w1, fun vs _ => (match vs with | .int _ x :: _ => (at8 s (k + 2) + 1 - x).toNat | _ => 0),
          ⟨0, x_1, by simp, by omega, by omega, fun d h0 h9 => ?_, hw⟩, fun x_2 x_3 w1 ⟨j, cs, hv, hj, hcs', hp', hw1⟩ => ?_⟩
        · rw [hp d h0 h9]
          have : (decide (at8 s k ≤ d) && decide (d < at8 s k + (0 : Nat))) = false := by simp
          rw [this]; simp
        · simp only [List.cons.injEq, Value.int.injEq, true_and, Value.string.injEq, and_true] at hv
          obtain ⟨rfl, rfl⟩ := hv
          refine bsp_intro (fun h3 => fun n w2 hn => ⟨b1 (at8 s k + j), b1_bytes (by simp at h3; omega) hn.block, ?_, ?_⟩) (fun h3 => ⟨?_, ?_⟩)
          · show (((x_3.size + (b1 (at8 s k + j)).size : Nat) : Int) ≤ 9223372036854775807)
            rw [b1_size]
            simp at h3
            omega
          · have h3 : at8 s k + j ≤ at8 s (k + 2) := by simpa using h3
            have hwr : IntKind.u8.wrap (at8 s k + j + 1) = at8 s k + (j + 1 : Nat) := by
              have : IntKind.u8.wrap (at8 s k + j + 1) = at8 s k + j + 1 := IntWalk.u8_in _ ⟨by omega, by omega⟩
              rw [this]; omega
            rw [hwr]
            refine ⟨⟨j + 1, x_3 ++ b1 (at8 s k + j), rfl, by omega, by rw [ByteArray.size_append, b1_size]; omega, fun d h0 h9 => ?_, hw1.trans (hn.kp _)⟩, by simp; omega⟩
            rw [hasB_b1 (by omega) ⟨h0, h9⟩, hp' d h0 h9, Bool.or_assoc]
            congr 1
            rw [Bool.eq_iff_iff]
            simp
            omega
          · have h3 : ¬ at8 s k + j ≤ at8 s (k + 2) := by simpa using h3
            refine ⟨k + 3, f, x_3, fun d => p d || (decide (at8 s k ≤ d) && decide (d ≤ at8 s (k + 2))), by simp, by omega, by omega, ?_, by omega, fun d h0 h9 => ?_, hw1⟩
            · rw [← hS]
              simp [itemsS, hlt, h1, h2]
            · rw [hp' d h0 h9]
              congr 2
              apply decide_eq_decide.2
              omega
          · simp; omega
    · have hsg : (lowerB (at8 s k) || digitB (at8 s k) || at8 s k == 43 || at8 s k == 95 || at8 s k == 46 || at8 s k == 45 && (k : Int) == 0) = singB s k := by
        unfold singB alB
        congr 2
        rw [Bool.eq_iff_iff]; simp
      rw [hsg]
      refine bsp_intro (fun h2 => fun n w2 hn => ⟨b1 (at8 s k), b1_bytes (by omega) hn.block, ?_, ?_, ?_⟩) (fun h2 => ?_)
      · show (((x_1.size + (b1 (at8 s k)).size : Nat) : Int) ≤ 9223372036854775807)
        rw [b1_size]
        omega
      · refine ⟨k + 1, f, x_1 ++ b1 (at8 s k), fun d => p d || decide (d = at8 s k), by simp, by omega, by omega, ?_, by rw [ByteArray.size_append, b1_size]; omega, fun d h0 h9 => ?_, hw.trans (hn.kp _)⟩
        · rw [← hS]
          simp [itemsS, hlt, h1, h2]
        · rw [hasB_b1 (by omega) ⟨h0, h9⟩, hp d h0 h9]
      · simp; omega
      · exact fin (by simp [itemsS, hlt, h1, h2])
  · have hge : ¬ k < s.size := by simpa using hge
    refine fin ?_
    cases f with
    | zero => rfl
    | succ f => simp [itemsS, hge]

end Go.Proofs.YtkkfnlehlkiejaaGreatDoor

/- The contract of wildmat.parseClass, by a plain function. The text has at least one and at most 2^20 bytes. -/
namespace Go.Proofs.YtkkfnlehlkiejaaGreatDoor
open Go.RowKit

theorem byteCells_length (s : ByteArray) : (byteCells s).length = s.size := by
  unfold byteCells
  rw [List.length_map]
  exact s.data.length_toList
/-- A row of bytes as a string. -/
theorem owns_bytes {w : World} {base : Nat} {e : TypeId} {p : Option Addr} {n c : Nat} {s : ByteArray} (h : w.ownsRow base e 1 (.slice p n c) n (byteCells s)) : s.size = n ∧ BytesP w p s := by
  have hl := h.1
  rw [byteCells_length] at hl
  refine ⟨by omega, ⟨?_⟩⟩
  rcases h.2 with ⟨_, hn⟩ | ⟨g, cap, cur, hv, _, hg, _, _, _, ht⟩
  · left; omega
  · right
    simp only [Value.slice.injEq] at hv
    refine ⟨g, 0, hv.1, At_of _ 0 fun j v hj => ?_⟩
    rw [Nat.zero_add, cell_block hg]
    rw [← ht, List.getElem?_take] at hj
    split at hj
    · simpa using hj
    · simp at hj

def pickB (x : ByteArray) (neg : Bool) (b : UInt8) : Bool := !(hasB x (b.toNat : Int) == neg)
/-- The characters of a class. -/
def clsB (x : ByteArray) (neg : Bool) : ByteArray := ⟨(nameBytes.data.toList.filter (pickB x neg)).toArray⟩
theorem byteCells_cls (x : ByteArray) (neg : Bool) : byteCells (clsB x neg) = (nameBytes.data.toList.filter (pickB x neg)).map (fun b => Value.int .u8 b.toNat) := by simp [byteCells, clsB]

theorem class_loop {w0 wS : World} {n : Nat} {x : ByteArray} {neg : Bool} {R : ByteArray → World → Prop} {t : TypeId} {fz : Nat × Nat} (hb : wS.heap[n]? = some (.cells (byteCells nameBytes).toArray t fz)) (hK : K0 w0 wS) (hR : ∀ w', K0 w0 w' → R (clsB x neg) w') :
    ∃ (I : List Value → World → Prop), ∃ (m : List Value → World → Nat), I [.int .i64 0, .slice none 0 0] wS ∧
      ∀ (x_2 : Int) (p : Option Addr) (n_1 c : Nat) (w' : World), I [.int .i64 x_2, .slice p n_1 c] w' →
        bsp (decide (x_2 < (↑40 : Int)))
          ((0 ≤ x_2 ∧ x_2 < (↑40 : Int)) ∧
            ∃ (x_3 : Int), w'.cell? (Addr.mk n (0 + x_2.toNat) none) = some (.int .u8 x_3) ∧
              bsp (!decide (Lib.indexByte x.data.toList x_3.toNat.toUInt8 ≥ 0) == neg)
                (∀ (n : Nat) (w1 : World), NewB w' (Obj.cells #[.int .u8 x_3] 5) n w1 →
                  ∃ (base : Nat), ∃ (xs : List Value), ∃ (news : List Value), w1.ownsRow base 5 1 (.slice p n_1 c) n_1 xs ∧ news.length = 1 ∧ SrcP w1 (some (Addr.mk n 0 none)) news ∧
                    n_1 + 1 ≤ 9223372036854775807 ∧ (n_1 + 1) * 1 ≤ 140737488355328 ∧ base ≤ w1.heap.size ∧
                    ∀ (p' : Option Addr) (c' : Nat) (w'_1 : World), w'_1.ownsRow base 5 1 (.slice p' (n_1 + 1) c') (n_1 + 1) (xs ++ news) → w1.grownBy w'_1 (Value.slice p n_1 c).ownBlock → (n_1 + 1 ≤ c → p' = p ∧ c' = c) →
                      I [.int .i64 (IntKind.i64.wrap (x_2 + 1)), .slice p' (n_1 + 1) c'] w'_1 ∧ m [.int .i64 (IntKind.i64.wrap (x_2 + 1)), .slice p' (n_1 + 1) c'] w'_1 < m [.int .i64 x_2, .slice p n_1 c] w')
                (I [.int .i64 (IntKind.i64.wrap (x_2 + 1)), .slice p n_1 c] w' ∧ m [.int .i64 (IntKind.i64.wrap (x_2 + 1)), .slice p n_1 c] w' < m [.int .i64 x_2, .slice p n_1 c] w'))
          (∃ (s : ByteArray), (s.size = n_1 ∧ BytesP w' p s) ∧ R s w') := by
  let l := nameBytes.data.toList
  have hl : l.length = 40 := rfl
  let cell := fun b : UInt8 => Value.int .u8 b.toNat
  refine ⟨fun vs w' => ∃ (k : Nat) (p : Option Addr) (n_1 c : Nat), vs = [.int .i64 k, .slice p n_1 c] ∧ k ≤ 40 ∧ n_1 ≤ k ∧ K0 wS w' ∧ w'.ownsRow wS.heap.size 5 1 (.slice p n_1 c) n_1 (((l.take k).filter (pickB x neg)).map cell),
    fun vs _ => (match vs with | .int _ x :: _ => 40 - x.toNat | _ => 0), ⟨0, none, 0, 0, rfl, by omega, by omega, .refl _ _, World.ownsRow_nil _ _ _ _⟩, fun x_2 p n_1 c w' ⟨k, p', n', c', hv, hk, hn, hw, ho⟩ => ?_⟩
  simp only [List.cons.injEq, Value.int.injEq, true_and, Value.slice.injEq, and_true] at hv
  obtain ⟨rfl, rfl, rfl, rfl⟩ := hv
  have hbw : w'.heap[n]? = some (.cells (byteCells nameBytes).toArray t fz) := hw.blk hb (fun h => h)
  have hnb : n < wS.heap.size := block_lt hb
  refine bsp_intro (fun hlt => ?_) (fun hge => ?_)
  · have hlt : (k : Int) < 40 := of_decide_eq_true hlt
    have hlt : k < 40 := by omega
    have hlk : l[k]? = some (l[k]'(by rw [hl]; exact hlt)) := List.getElem?_eq_getElem _
    generalize hbk : l[k]'(by rw [hl]; exact hlt) = b at hlk
    have hbd := b.toNat_lt
    have htk : l.take (k + 1) = l.take k ++ [b] := by rw [List.take_add_one, hlk]; rfl
    have hwr : IntKind.i64.wrap ((k : Int) + 1) = ((k + 1 : Nat) : Int) := by rw [wr64 (by omega) (by omega)]; omega
    rw [hwr]
    refine ⟨by omega, (b.toNat : Int), ?_, ?_⟩
    · rw [Nat.zero_add, Int.toNat_natCast, cell_block hbw]
      have : (byteCells nameBytes)[k]? = some (.int .u8 b.toNat) := by
        show (l.map fun b => Value.int .u8 b.toNat)[k]? = _
        rw [List.getElem?_map, hlk]; rfl
      simpa using this
    · have hP : (!decide (Lib.indexByte x.data.toList (b.toNat : Int).toNat.toUInt8 ≥ 0) == neg) = pickB x neg b := by
        unfold pickB
        rw [show decide (Lib.indexByte x.data.toList (b.toNat : Int).toNat.toUInt8 ≥ 0) = hasB x (b.toNat : Int) from indexByte_nonneg _ _]
      rw [hP]
      refine bsp_intro (fun hp => fun n2 w1 hn2 => ?_) (fun hp => ⟨⟨k + 1, p, n_1, c, rfl, by omega, by omega, hw, ?_⟩, by simp; omega⟩)
      · have hK1 : K0 wS w1 := hw.trans (hn2.kp _)
        refine ⟨wS.heap.size, _, [.int .u8 b.toNat], owns_kp ho (hn2.kp (fun _ => False)) (fun _ _ h => h), rfl, src_block hn2.block (by simp [Value.oneCell']), by omega, by omega, hK1.size, fun p' c' w2 ho2 hg _ => ?_⟩
        refine ⟨⟨k + 1, p', n_1 + 1, c', rfl, by omega, by omega, hK1.grown hg (fun q hq => .inl (ho.lt q hq).1), ?_⟩, by simp; omega⟩
        rw [htk, List.filter_append, List.map_append]
        simpa [List.filter, hp, cell] using ho2
      · rw [htk, List.filter_append, List.map_append]
        simpa [List.filter, hp] using ho
  · have hge : ¬ (k : Int) < 40 := of_decide_eq_false hge
    have h40 : k = 40 := by omega
    subst h40
    have ht : l.take 40 = l := List.take_of_length_le (by rw [hl]; exact Nat.le_refl _)
    rw [ht, ← byteCells_cls] at ho
    exact ⟨clsB x neg, owns_bytes ho, hR w' (hK.trans hw)⟩

theorem itemsS_le (s : ByteArray) : ∀ (f k : Nat) (p : Int → Bool), k ≤ s.size → (itemsS s f k p).2 ≤ s.size
  | 0, k, p, h => h
  | f + 1, k, p, h => by
    unfold itemsS
    split
    · split
      · rename_i hr
        simp [rngB] at hr
        split
        · exact h
        · exact itemsS_le s f _ _ (by omega)
      · split
        · exact itemsS_le s f _ _ (by omega)
        · exact h
    · exact h
def negB (s : ByteArray) : Bool := Lib.hasPrefix s.data.toList [91, 94]
def fromN (s : ByteArray) : Nat := if negB s = true then 2 else 1
def restB (s : ByteArray) : ByteArray := s.extract (fromN s) s.size
def listS (s : ByteArray) : (Int → Bool) × Nat := itemsS (restB s) (restB s).size 0 (fun _ => false)
/-- The length of the class at the beginning, or 0. -/
def clsN (s : ByteArray) : Nat := if (listS s).2 = 0 ∨ fromN s + (listS s).2 = s.size ∨ at8 s (fromN s + (listS s).2) ≠ 93 then 0 else fromN s + (listS s).2 + 1
/-- The characters of the class at the beginning. -/
def clsS (s : ByteArray) : ByteArray := if clsN s = 0 then ⟨#[]⟩ else ⟨(nameBytes.data.toList.filter fun b => !((listS s).1 b.toNat == negB s)).toArray⟩
theorem hasPrefix_size {s : ByteArray} (h : negB s = true) : 2 ≤ s.size := by
  have hl : s.data.toList.length = s.size := s.data.length_toList
  unfold negB at h
  cases hs : s.data.toList with
  | nil => rw [hs] at h; simp [Lib.hasPrefix] at h
  | cons a r => cases r with
    | nil => rw [hs] at h; simp [Lib.hasPrefix] at h
    | cons b r => rw [hs] at hl; simp at hl; omega
theorem clsB_eq {s x : ByteArray} (h : clsN s ≠ 0) (hx : ∀ d, 0 ≤ d → d ≤ 255 → hasB x d = (listS s).1 d) : clsB x (negB s) = clsS s := by
  unfold clsB clsS
  rw [if_neg h]
  congr 2
  apply List.filter_congr
  intro b _
  unfold pickB
  rw [hx b.toNat (by omega) (by have := b.toNat_lt; omega)]
theorem parseClass_any (s : ByteArray) (w : World) (h1 : 1 ≤ s.size) (hs : s.size ≤ 1048576) : Calls Tryz.prog 86 #[.string s] w fun e w' =>
    e = .returned (.tuple #[.string (clsS s), .int .i64 (clsN s)]) ∧ K0 w w' := by
  refine vc_parseClass s w _ ?_
  unfold VC_parseClass
  have hsz : (restB s).size = s.size - fromN s := by unfold restB; rw [ByteArray.size_extract]; simp
  have key : ∀ (fr : Nat), fr = fromN s → ∀ (e : Ending) (w' : World), (∃ x : ByteArray, e = .returned (.tuple #[.string x, .int .i64 (listS s).2]) ∧ (∀ d, 0 ≤ d → d ≤ 255 → hasB x d = (listS s).1 d) ∧ x.size ≤ 256 * (restB s).size ∧ K0 w w') →
      (fr : Int) ≤ s.size →
      IntKind.i64.wrap ((fr : Int) + (listS s).2) = ((fr + (listS s).2 : Nat) : Int) := fun fr hfr e w' _ hle => by
    have := itemsS_le (restB s) (restB s).size 0 (fun _ => false) (by omega)
    have h2 : (listS s).2 ≤ (restB s).size := this
    rw [hsz] at h2
    rw [wr64 (by omega) (by omega)]; omega
  have hN : ∀ {w' : World}, ((listS s).2 = 0 ∨ fromN s + (listS s).2 = s.size ∨ at8 s (fromN s + (listS s).2) ≠ 93) → K0 w w' →
      (Ending.returned (.tuple #[.string ⟨#[]⟩, .int .i64 0]) = .returned (.tuple #[.string (clsS s), .int .i64 (clsN s)]) ∧ K0 w w') := fun h hk => by
    have h0 : clsN s = 0 := by unfold clsN; rw [if_pos h]
    refine ⟨?_, hk⟩
    unfold clsS
    rw [h0, if_pos rfl]
    rfl
  have core : ∀ (fr : Nat), fr = fromN s → fr ≤ s.size → ∀ (e : Ending) (w' : World), (∃ x : ByteArray, e = .returned (.tuple #[.string x, .int .i64 (listS s).2]) ∧ (∀ d, 0 ≤ d → d ≤ 255 → hasB x d = (listS s).1 d) ∧ x.size ≤ 256 * (restB s).size ∧ K0 w w') →
      ∃ (x : ByteArray), ∃ (x_1 : Int), e = .returned (.tuple #[.string x, .int .i64 x_1]) ∧
        gimp (!(x_1 == 0 || IntKind.i64.wrap ((fr : Int) + x_1) == (↑s.size : Int))) (0 ≤ IntKind.i64.wrap ((fr : Int) + x_1) ∧ IntKind.i64.wrap ((fr : Int) + x_1) < (↑s.size : Int)) ∧
        bsp (x_1 == 0 || IntKind.i64.wrap ((fr : Int) + x_1) == (↑s.size : Int) || at8 s (IntKind.i64.wrap ((fr : Int) + x_1)).toNat != 93)
          (Ending.returned (.tuple #[.string ⟨#[]⟩, .int .i64 0]) = .returned (.tuple #[.string (clsS s), .int .i64 (clsN s)]) ∧ K0 w w')
          (∀ (n : Nat) (w1 : World), NewB w' (Obj.cells (byteCells nameBytes).toArray 5) n w1 → ∀ (w2 : World), MarkB w1 n w2 → clsN s ≠ 0 ∧ K0 w w2 ∧ w2.heap[n]? = some (.cells (byteCells nameBytes).toArray 5 (40, 41)) ∧
            (∀ d, 0 ≤ d → d ≤ 255 → hasB x d = (listS s).1 d) ∧ IntKind.i64.wrap (IntKind.i64.wrap ((fr : Int) + x_1) + 1) = (clsN s : Int)) := fun fr hfr hle e w' he => by
    have hk := key fr hfr e w' he (by omega)
    obtain ⟨x, he, hx, _, hw⟩ := he
    refine ⟨x, _, he, ?_⟩
    rw [hk]
    have h2 : (listS s).2 ≤ (restB s).size := itemsS_le (restB s) (restB s).size 0 (fun _ => false) (by omega)
    rw [hsz] at h2
    have hcond : ((((listS s).2 : Nat) : Int) == 0 || ((fr + (listS s).2 : Nat) : Int) == (↑s.size : Int) || at8 s (((fr + (listS s).2 : Nat) : Int)).toNat != 93) = true ↔ ((listS s).2 = 0 ∨ fromN s + (listS s).2 = s.size ∨ at8 s (fromN s + (listS s).2) ≠ 93) := by
      rw [Int.toNat_natCast, hfr]
      simp only [Bool.or_eq_true, beq_iff_eq, bne_iff_ne, ne_eq, or_assoc]
      constructor
      · rintro (h | h | h)
        · left; omega
        · right; left; omega
        · right; right; exact h
      · rintro (h | h | h)
        · left; omega
        · right; left; omega
        · right; right; exact h
    refine ⟨gimp_intro fun hg => ?_, bsp_intro (fun hc => hN (hcond.1 hc) hw) (fun hc => fun n w1 hn w2 hm => ?_)⟩
    · simp only [Bool.not_eq_true', Bool.or_eq_false_iff, beq_eq_false_iff_ne, ne_eq] at hg
      omega
    · have hc' : ¬ ((listS s).2 = 0 ∨ fromN s + (listS s).2 = s.size ∨ at8 s (fromN s + (listS s).2) ≠ 93) := fun h => by rw [hcond.2 h] at hc; cases hc
      have hcn : clsN s = fromN s + (listS s).2 + 1 := by unfold clsN; rw [if_neg hc']
      refine ⟨by omega, ?_, hm.block hn.block, hx, ?_⟩
      · have := hn.ge
        have := hw.size
        exact (hw.trans (hn.kp _)).fresh hm.kp (fun i hi h => by omega)
      · rw [hcn, ← hfr, wr64 (by omega) (by omega)]; omega
  refine bsp_intro (fun hneg => ?_) (fun hneg => ?_)
  · have hf : fromN s = 2 := by unfold fromN; exact if_pos (show negB s = true from hneg)
    have h2 := hasPrefix_size hneg
    have hr : s.extract 2 s.size = restB s := by unfold restB; rw [hf]
    rw [hr]
    refine ⟨⟨by decide, by omega⟩, ⟨(items_any (restB s) w (by omega)).mono fun e w' he => ?_⟩⟩
    obtain ⟨x, x_1, h3, h4, h5⟩ := core 2 hf.symm h2 e w' he
    refine ⟨x, x_1, h3, h4, bsp_mono h5 (fun h => h) (fun h n w1 hn w2 hm => ?_)⟩
    obtain ⟨q1, q2, q3, q4, q5⟩ := h n w1 hn w2 hm
    refine class_loop q3 q2 (fun w3 hk => ⟨?_, hk⟩)
    rw [show IntKind.i64.wrap (IntKind.i64.wrap (2 + x_1) + 1) = (clsN s : Int) from q5]
    rw [show Lib.hasPrefix s.data.toList [91, 94] = negB s from rfl, clsB_eq q1 q4]
  · have hf : fromN s = 1 := by unfold fromN; rw [if_neg (by rw [show negB s = false from hneg]; decide)]
    have hr : s.extract 1 s.size = restB s := by unfold restB; rw [hf]
    rw [hr]
    refine ⟨⟨by decide, by omega⟩, ⟨(items_any (restB s) w (by omega)).mono fun e w' he => ?_⟩⟩
    obtain ⟨x, x_1, h3, h4, h5⟩ := core 1 hf.symm h1 e w' he
    refine ⟨x, x_1, h3, h4, bsp_mono h5 (fun h => h) (fun h n w1 hn w2 hm => ?_)⟩
    obtain ⟨q1, q2, q3, q4, q5⟩ := h n w1 hn w2 hm
    refine class_loop q3 q2 (fun w3 hk => ⟨?_, hk⟩)
    rw [show IntKind.i64.wrap (IntKind.i64.wrap (1 + x_1) + 1) = (clsN s : Int) from q5]
    rw [show Lib.hasPrefix s.data.toList [91, 94] = negB s from rfl, clsB_eq q1 q4]

end Go.Proofs.YtkkfnlehlkiejaaGreatDoor

/- Rows that grow by one element, cells of own blocks: lemmas for the proofs of formulas. Generic: no program, no condition. -/
namespace Go.Proofs.YtkkfnlehlkiejaaGreatDoor
open Go.RowKit

/-- One element is appended (its cells lie in a new block). -/
theorem app1 {w w1 : World} {base n2 n c L sz : Nat} {T : TypeId} {p : Option Addr} {xs : List Value} {cs : Array Value} (ho : w.ownsRow base T L (.slice p n c) n xs) (hb : base ≤ w.heap.size) (hn : NewB w (.cells cs T) n2 w1) (hL : cs.size = L)
    (hv : ∀ u ∈ cs.toList, u.oneCell' = true) (h1 : n + 1 ≤ 9223372036854775807) (h2 : (n + 1) * sz ≤ 140737488355328) {X : Option Addr → Nat → World → Prop}
    (h : ∀ (p' : Option Addr) (c' : Nat) (w' : World), w'.ownsRow base T L (.slice p' (n + 1) c') (n + 1) (xs ++ cs.toList) → Kp (fun k => (Value.slice p n c).ownBlock = some k) w w' → w1.heap.size ≤ w'.heap.size → X p' c' w') :
    ∃ (base : Nat) (xs news : List Value), w1.ownsRow base T L (.slice p n c) n xs ∧ news.length = L ∧ SrcP w1 (some (Addr.mk n2 0 none)) news ∧ n + 1 ≤ 9223372036854775807 ∧ (n + 1) * sz ≤ 140737488355328 ∧ base ≤ w1.heap.size ∧
      ∀ (p' : Option Addr) (c' : Nat) (w' : World), w'.ownsRow base T L (.slice p' (n + 1) c') (n + 1) (xs ++ news) → w1.grownBy w' (Value.slice p n c).ownBlock → (n + 1 ≤ c → p' = p ∧ c' = c) → X p' c' w' := by
  have hk := hn.kp (fun _ => False)
  refine ⟨base, xs, cs.toList, owns_kp ho hk (fun _ _ h => h), by simpa using hL, src_block hn.block hv, h1, h2, Nat.le_trans hb hk.size, fun p' c' w' ho' hg _ => h p' c' w' ho' ?_ hg.size⟩
  exact (hn.kp _).grown hg (fun k hk => .inr hk)
/-- The block of a row is not before its base. -/
theorem own_ge {w : World} {base : Nat} {e : TypeId} {size : Nat} {v : Value} {n : Nat} {xs : List Value} (h : w.ownsRow base e size v n xs) {k : Nat} (hk : v.ownBlock = some k) : base ≤ k := (h.lt k hk).1
theorem own_lt {w : World} {base : Nat} {e : TypeId} {size : Nat} {v : Value} {n : Nat} {xs : List Value} (h : w.ownsRow base e size v n xs) {k : Nat} (hk : v.ownBlock = some k) : k < w.heap.size := (h.lt k hk).2
theorem cell_at {w : World} {b o : Nat} {c : Array Value} {t : TypeId} {f : Nat × Nat} {v : Value} (h : w.heap[b]? = some (.cells c t f)) (hv : c[o]? = some v) : w.cell? ⟨b, o, none⟩ = some v := by rw [cell_block h]; exact hv
/-- A block that can be written: a cell of it. -/
theorem cell_wr {w : World} {b o : Nat} {c : Array Value} {t : TypeId} (h : w.heap[b]? = some (.cells c t (0, 0))) (ho : o < c.size) : (∃ u, w.cell? ⟨b, o, none⟩ = some u) ∧ w.frozen? ⟨b, o, none⟩ = false :=
  ⟨⟨c[o], by rw [cell_block h]; simp [ho]⟩, frozen_block h _⟩
/-- An element of a row, read. -/
theorem own_cell {w : World} {base : Nat} {e : TypeId} {n c : Nat} {p : Option Addr} {xs : List Value} (h : w.ownsRow base e 1 (.slice p n c) n xs) {k : Nat} (hk : k < n) : ∃ g v, p = some ⟨g, 0, none⟩ ∧ xs[k]? = some v ∧ w.cell? ⟨g, 0 + k, none⟩ = some v := by
  have hl := h.1
  rcases h.2 with ⟨_, hn⟩ | ⟨g, cap, cur, hv, _, hg, _, _, _, ht⟩
  · omega
  · simp only [Value.slice.injEq] at hv
    obtain ⟨v, hx⟩ : ∃ v, xs[k]? = some v := ⟨_, List.getElem?_eq_getElem (by omega)⟩
    refine ⟨g, v, hv.1, hx, ?_⟩
    rw [cell_block hg, Nat.zero_add]
    rw [← ht, List.getElem?_take] at hx
    simp only [Nat.mul_one, hk, if_true] at hx
    rw [Array.getElem?_toList] at hx
    rw [hx]
/-- What lies in the block of a row. -/
theorem own_type {w : World} {base : Nat} {e : TypeId} {size : Nat} {v : Value} {n : Nat} {xs : List Value} (h : w.ownsRow base e size v n xs) {k : Nat} (hk : v.ownBlock = some k) : ∃ c, w.heap[k]? = some (.cells c e (0, 0)) := by
  rcases h.2 with ⟨rfl, _⟩ | ⟨g, cap, cur, rfl, _, hg, _⟩
  · simp [Value.ownBlock] at hk
  · simp only [Value.ownBlock, Option.some.injEq] at hk
    subst hk
    exact ⟨cur, hg⟩
theorem putL_all : ∀ (vs pre c : List Value), c.length = vs.length → putL (pre ++ c) pre.length vs = pre ++ vs
  | [], pre, [], _ => by simp [putL]
  | [], pre, _ :: _, h => by simp at h
  | v :: r, pre, [], h => by simp at h
  | v :: r, pre, x :: c, h => by
    have := putL_all r (pre ++ [v]) c (by simpa using h)
    simp only [putL]
    simpa using this
/-- All cells of a block are written. -/
theorem PutB.full {w w1 : World} {b : Nat} {cs : List Value} (h : PutB w b 0 cs w1) {c : Array Value} {t : TypeId} {f : Nat × Nat} (hb : w.heap[b]? = some (.cells c t f)) (hl : c.size = cs.length) : w1.heap[b]? = some (.cells cs.toArray t f) := by
  have := putL_all cs [] c.toList (by simpa using hl)
  simp at this
  rw [h.block hb, this]

end Go.Proofs.YtkkfnlehlkiejaaGreatDoor

/- The formulas of functions by the symbolic evaluator, and that each gives the call's contract. Written by a program (gen.py). No condition. -/
namespace Go.Proofs.YtkkfnlehlkiejaaGreatDoor
set_option maxRecDepth 100000
set_option linter.unusedVariables false

def VC_compile (s : ByteArray) (w : World) (R : Ending → World → Prop) : Prop :=
 bsp (s.toList == [])
 (R (Ending.returned (Value.tuple #[Value.pointer none, Value.int IntKind.i64 0, Value.int IntKind.i64 4])) w)
 (bsp (decide ((↑s.size : Int) > 80))
 (R (Ending.returned (Value.tuple #[Value.pointer none, Value.int IntKind.i64 80, Value.int IntKind.i64 5])) w)
 (∀ (n : Nat) (w1 : World),
 NewB w (Obj.cells #[Value.string s, Value.slice none 0 0] 149) n w1 →
 ∃ (I : List Value → World → Prop),
 ∃ (m : List Value → World → Nat),
 I [Value.int IntKind.i64 0] w1 ∧
 ∀ (x : Int) (w' : World),
 I [Value.int IntKind.i64 x] w' →
 bsp (decide (x < (↑s.size : Int)))
 (∃ (J : List Value → World → Prop),
 ((0 ≤ x ∧ x < (↑s.size : Int)) ∧
 bsp (at8 s x.toNat == 63)
 (∃ (p : Option Addr),
 ∃ (n_1 : Nat),
 ∃ (c : Nat),
 w'.cell? (Addr.mk n (0 + 1) none) = some (Value.slice p n_1 c) ∧
 ∀ (n_2 : Nat) (w1 : World),
 NewB w' (Obj.cells #[Value.iface 151 (Value.agg #[])] 167) n_2 w1 →
 ∃ (base : Nat),
 ∃ (xs : List Value),
 ∃ (news : List Value),
 w1.ownsRow base 167 1 (Value.slice p n_1 c) n_1 xs ∧
 news.length = 1 ∧
 SrcP w1 (some (Addr.mk n_2 0 none)) news ∧
 n_1 + 1 ≤ 9223372036854775807 ∧
 (n_1 + 1) * 16 ≤ 140737488355328 ∧
 base ≤ w1.heap.size ∧
 ∀ (p' : Option Addr) (c' : Nat) (w' : World),
 w'.ownsRow base 167 1 (Value.slice p' (n_1 + 1) c') (n_1 + 1) (xs ++ news) →
 w1.grownBy w' (Value.slice p n_1 c).ownBlock →
 (n_1 + 1 ≤ c → p' = p ∧ c' = c) →
 ((∃ (u : Value), w'.cell? (Addr.mk n (0 + 1) none) = some u) ∧
 w'.frozen? (Addr.mk n (0 + 1) none) = false) ∧
 ∀ (w1 : World),
 PutB w' n (0 + 1) [Value.slice p' (n_1 + 1) c'] w1 → J [Value.int IntKind.i64 1] w1)
 (bsp (at8 s x.toNat == 42)
 (∃ (p : Option Addr),
 ∃ (n_1 : Nat),
 ∃ (c : Nat),
 w'.cell? (Addr.mk n (0 + 1) none) = some (Value.slice p n_1 c) ∧
 ∀ (n_2 : Nat) (w1 : World),
 NewB w' (Obj.cells #[Value.iface 152 (Value.agg #[])] 167) n_2 w1 →
 ∃ (base : Nat),
 ∃ (xs : List Value),
 ∃ (news : List Value),
 w1.ownsRow base 167 1 (Value.slice p n_1 c) n_1 xs ∧
 news.length = 1 ∧
 SrcP w1 (some (Addr.mk n_2 0 none)) news ∧
 n_1 + 1 ≤ 9223372036854775807 ∧
 (n_1 + 1) * 16 ≤ 140737488355328 ∧
 base ≤ w1.heap.size ∧
 ∀ (p' : Option Addr) (c' : Nat) (w' : World),
 w'.ownsRow base 167 1 (Value.slice p' (n_1 + 1) c') (n_1 + 1) (xs ++ news) →
 w1.grownBy w' (Value.slice p n_1 c).ownBlock →
 (n_1 + 1 ≤ c → p' = p ∧ c' = c) →
 ((∃ (u : Value), w'.cell? (Addr.mk n (0 + 1) none) = some u) ∧
 w'.frozen? (Addr.mk n (0 + 1) none) = false) ∧
 ∀ (w1 : World),
 PutB w' n (0 + 1) [Value.slice p' (n_1 + 1) c'] w1 → J [Value.int IntKind.i64 1] w1)
 (bsp (at8 s x.toNat == 91)
 ((0 ≤ x ∧ x ≤ (↑s.size : Int)) ∧
 CallsS Tryz.prog 86 #[Value.string (s.extract x.toNat s.size)] w' fun (e : Ending) (w' : World) =>
 ∃ (x_1 : ByteArray),
 ∃ (x_2 : Int),
 e = Ending.returned (Value.tuple #[Value.string x_1, Value.int IntKind.i64 x_2]) ∧
 bsp (x_2 == 0)
 (R
 (Ending.returned
 (Value.tuple #[Value.pointer none, Value.int IntKind.i64 x, Value.int IntKind.i64 3]))
 w')
 (∃ (p : Option Addr),
 ∃ (n_1 : Nat),
 ∃ (c : Nat),
 w'.cell? (Addr.mk n (0 + 1) none) = some (Value.slice p n_1 c) ∧
 ∀ (n_2 : Nat) (w1 : World),
 NewB w' (Obj.cells #[Value.iface 153 (Value.string x_1)] 167) n_2 w1 →
 ∃ (base : Nat),
 ∃ (xs : List Value),
 ∃ (news : List Value),
 w1.ownsRow base 167 1 (Value.slice p n_1 c) n_1 xs ∧
 news.length = 1 ∧
 SrcP w1 (some (Addr.mk n_2 0 none)) news ∧
 n_1 + 1 ≤ 9223372036854775807 ∧
 (n_1 + 1) * 16 ≤ 140737488355328 ∧
 base ≤ w1.heap.size ∧
 ∀ (p' : Option Addr) (c' : Nat) (w' : World),
 w'.ownsRow base 167 1 (Value.slice p' (n_1 + 1) c') (n_1 + 1) (xs ++ news) →
 w1.grownBy w' (Value.slice p n_1 c).ownBlock →
 (n_1 + 1 ≤ c → p' = p ∧ c' = c) →
 ((∃ (u : Value), w'.cell? (Addr.mk n (0 + 1) none) = some u) ∧
 w'.frozen? (Addr.mk n (0 + 1) none) = false) ∧
 ∀ (w1 : World),
 PutB w' n (0 + 1) [Value.slice p' (n_1 + 1) c'] w1 →
 J [Value.int IntKind.i64 x_2] w1))
 (bsp
 (decide
 (Lib.indexByte
 (ByteArray.mk
 #[43, 45, 46, 48, 49, 50, 51, 52, 53, 54, 55, 56, 57, 95, 97, 98, 99, 100, 101, 102, 103, 104,
 105, 106, 107, 108, 109, 110, 111, 112, 113, 114, 115, 116, 117, 118, 119, 120, 121,
 122]).data.toList
 (at8 s x.toNat).toNat.toUInt8 ≥
 0))
 (∃ (S : World → Prop),
 S w'.drew ∧
 ∃ (p : Option Addr),
 ∃ (n_1 : Nat),
 ∃ (c : Nat),
 (∀ (w' : World), S w' → w'.cell? (Addr.mk n (0 + 1) none) = some (Value.slice p n_1 c)) ∧
 (0 ≤ x ∧ x ≤ IntKind.i64.wrap (x + 1) ∧ IntKind.i64.wrap (x + 1) ≤ (↑s.size : Int)) ∧
 ∀ (n_2 : Nat) (w1 : World),
 NewB w'.drew
 (Obj.cells
 #[Value.iface 157 (Value.string (s.extract x.toNat (IntKind.i64.wrap (x + 1)).toNat))] 167)
 n_2 w1 →
 S w1 ∧
 ∃ (base : Nat),
 ∃ (xs : List Value),
 ∃ (news : List Value),
 w1.ownsRow base 167 1 (Value.slice p n_1 c) n_1 xs ∧
 news.length = 1 ∧
 SrcP w1 (some (Addr.mk n_2 0 none)) news ∧
 n_1 + 1 ≤ 9223372036854775807 ∧
 (n_1 + 1) * 16 ≤ 140737488355328 ∧
 base ≤ w1.heap.size ∧
 ∀ (p' : Option Addr) (c' : Nat) (w' : World),
 w'.ownsRow base 167 1 (Value.slice p' (n_1 + 1) c') (n_1 + 1) (xs ++ news) →
 w1.grownBy w' (Value.slice p n_1 c).ownBlock →
 (n_1 + 1 ≤ c → p' = p ∧ c' = c) →
 ((∃ (u : Value), w'.cell? (Addr.mk n (0 + 1) none) = some u) ∧
 w'.frozen? (Addr.mk n (0 + 1) none) = false) ∧
 ∀ (w1 : World),
 PutB w' n (0 + 1) [Value.slice p' (n_1 + 1) c'] w1 →
 J [Value.int IntKind.i64 1] w1)
 (R
 (Ending.returned
 (Value.tuple #[Value.pointer none, Value.int IntKind.i64 x, Value.int IntKind.i64 6]))
 w'))))) ∧
 ∀ (x_1 : Int) (w'_1 : World),
 J [Value.int IntKind.i64 x_1] w'_1 →
 I [Value.int IntKind.i64 (IntKind.i64.wrap (x + x_1))] w'_1 ∧
 m [Value.int IntKind.i64 (IntKind.i64.wrap (x + x_1))] w'_1 < m [Value.int IntKind.i64 x] w')
 (R
 (Ending.returned
 (Value.tuple #[Value.pointer (some (Addr.mk n 0 none)), Value.int IntKind.i64 0, Value.int IntKind.i64 0]))
 w')))
theorem vc_compile (s : ByteArray) (w : World) (R : Ending → World → Prop) (h : VC_compile s w R) : Calls Tryz.prog 61 ([Value.string
    s] : List Value).toArray w R := by
  have e : execR { P := Tryz.prog, loops := [(7, [(6, Ck.int IntKind.i64)])], pur := pur1, tails := [(22, 11)], joins := [(23, [(7, Ck.int IntKind.i64)])], boxes := [] } Tryz.f61.results.toList R (Tryz.f61.body.getD .skip) (initF [Value.string
    s] (Tryz.f61.ntmps - ([Value.string s] : List Value).length)) w = VC_compile s w R := by kernel_rfl
  have hb : Tryz.f61.body = some (Tryz.f61.body.getD .skip) := by kernel_rfl
  exact calls_of_exec' (P := Tryz.prog) (fn := Tryz.f61) (c := Tryz.f61.body.getD .skip) (args := [Value.string
    s]) (w := w) (R := R) pur1_ok Tryz.func61 hb e h

end Go.Proofs.YtkkfnlehlkiejaaGreatDoor

/- The contract of wildmat.Compile, by a plain function. No condition. -/
namespace Go.Proofs.YtkkfnlehlkiejaaGreatDoor
open Go.RowKit

/-- A pattern in the memory: its block and its row of elements lie where D says. -/
def PatR (D : Nat → Prop) (w : World) (b : Nat) (s : ByteArray) (els : List El) : Prop :=
  ∃ (p : Option Addr) (n c : Nat), w.heap[b]? = some (.cells #[.string s, .slice p n c] 149 (0, 0)) ∧ D b ∧ w.ownsRow 0 167 1 (.slice p n c) n (els.map El.val) ∧ ∀ k, (Value.slice p n c).ownBlock = some k → D k
theorem PatR.kp {D M : Nat → Prop} {w w' : World} {b : Nat} {s : ByteArray} {els : List El} (h : PatR D w b s els) (hk : Kp M w w') (hm : ∀ k, D k → k < w.heap.size → ¬ M k) : PatR D w' b s els := by
  obtain ⟨p, n, c, h1, h2, h3, h4⟩ := h
  exact ⟨p, n, c, hk.blk h1 (hm b h2 (block_lt h1)), h2, owns_kp h3 hk (fun k hk => hm k (h4 k hk) (own_lt h3 hk)), h4⟩
/-- Blocks of other types are written. -/
theorem PatR.kpT {D M : Nat → Prop} {w w' : World} {b : Nat} {s : ByteArray} {els : List El} (h : PatR D w b s els) (hk : Kp M w w') (hm : ∀ k c t f, M k → w.heap[k]? = some (.cells c t f) → t ≠ 149 ∧ t ≠ 167) : PatR D w' b s els := by
  obtain ⟨p, n, c, h1, h2, h3, h4⟩ := h
  refine ⟨p, n, c, hk.blk h1 (fun hM => (hm b _ _ _ hM h1).1 rfl), h2, owns_kp h3 hk (fun k hk hM => ?_), h4⟩
  obtain ⟨cc, hc⟩ := own_type h3 hk
  exact (hm k _ _ _ hM hc).2 rfl
theorem PatR.mono {D D' : Nat → Prop} {w : World} {b : Nat} {s : ByteArray} {els : List El} (h : PatR D w b s els) (hd : ∀ k, D k → k < w.heap.size → D' k) : PatR D' w b s els := by
  obtain ⟨p, n, c, h1, h2, h3, h4⟩ := h
  exact ⟨p, n, c, h1, hd b h2 (block_lt h1), h3, fun k hk => hd k (h4 k hk) (own_lt h3 hk)⟩

/-- The elements of a pattern from an index on, or the offset and the kind of the error. -/
def compS (s : ByteArray) : Nat → Nat → List El → List El ⊕ (Nat × Int)
  | 0, _, acc => .inl acc
  | f + 1, k, acc =>
    if k < s.size then
      if (at8 s k == 63) = true then compS s f (k + 1) (acc ++ [.one])
      else if (at8 s k == 42) = true then compS s f (k + 1) (acc ++ [.star])
      else if (at8 s k == 91) = true then
        if clsN (s.extract k s.size) = 0 then .inr (k, 3) else compS s f (k + clsN (s.extract k s.size)) (acc ++ [.cls (clsS (s.extract k s.size))])
      else if hasB nameBytes (at8 s k) = true then compS s f (k + 1) (acc ++ [.lit (s.extract k (k + 1))])
      else .inr (k, 6)
    else .inl acc
def compileR (s : ByteArray) : List El ⊕ (Nat × Int) :=
  if s.size = 0 then .inr (0, 4) else if 80 < s.size then .inr (80, 5) else compS s s.size 0 []
theorem clsN_le (s : ByteArray) (h : 1 ≤ s.size) : clsN s ≤ s.size := by
  unfold clsN
  split
  · omega
  · rename_i hn
    have h1 := itemsS_le (restB s) (restB s).size 0 (fun _ => false) (by omega)
    have h2 : (restB s).size = s.size - fromN s := by unfold restB; rw [ByteArray.size_extract]; omega
    have h3 : fromN s ≤ s.size := by
      unfold fromN
      split
      · rename_i hneg; exact hasPrefix_size hneg
      · exact h
    have h4 : (listS s).2 ≤ s.size - fromN s := by unfold listS; omega
    have h5 : ¬ fromN s + (listS s).2 = s.size := fun e => hn (.inr (.inl e))
    omega
theorem El.oneCell (x : El) : (x.val).oneCell' = true := by cases x <;> rfl
theorem hasB_index (x : ByteArray) (c : Int) : decide (Lib.indexByte x.data.toList c.toNat.toUInt8 ≥ 0) = hasB x c := by
  exact indexByte_nonneg _ _

/-- A pattern that is being made. -/
def PatSt (w : World) (nb : Nat) (s : ByteArray) (acc : List El) : Prop :=
  ∃ (p : Option Addr) (n c : Nat), w.heap[nb]? = some (.cells #[.string s, .slice p n c] 149 (0, 0)) ∧ w.ownsRow (nb + 1) 167 1 (.slice p n c) n (acc.map El.val)
theorem PatSt.kp {w w' : World} {nb : Nat} {s : ByteArray} {acc : List El} (h : PatSt w nb s acc) (hk : K0 w w') : PatSt w' nb s acc := by
  obtain ⟨p, n, c, h1, h2⟩ := h
  exact ⟨p, n, c, hk.blk h1 (fun h => h), owns_kp h2 hk (fun _ _ h => h)⟩

set_option maxHeartbeats 400000 in
theorem compile_any (s : ByteArray) (w : World) : Calls Tryz.prog 61 #[.string s] w fun e w' => K0 w w' ∧
    match compileR s with
    | .inl els => ∃ b, e = .returned (.tuple #[.pointer (some ⟨b, 0, none⟩), .int .i64 0, .int .i64 0]) ∧ PatR (fun k => w.heap.size ≤ k) w' b s els
    | .inr (o, x) => e = .returned (.tuple #[.pointer none, .int .i64 o, .int .i64 x]) := by
  refine vc_compile s w _ ?_
  unfold VC_compile
  rw [toList_nil]
  refine bsp_intro (fun h0 => ?_) (fun h0 => bsp_intro (fun h1 => ?_) (fun h1 => ?_))
  · have h0 : s.size = 0 := by simpa using h0
    refine ⟨.refl _ _, ?_⟩
    simp only [compileR, h0, if_true]
    rfl
  · have h0 : ¬ s.size = 0 := by simpa using h0
    have h1 : 80 < s.size := by simp at h1; omega
    refine ⟨.refl _ _, ?_⟩
    simp only [compileR, h0, h1, if_true, if_false]
    rfl
  have h0 : ¬ s.size = 0 := by simpa using h0
  have h1 : ¬ 80 < s.size := by simp at h1; omega
  have hR : compileR s = compS s s.size 0 [] := by simp only [compileR, h0, h1, if_false]
  rw [hR]
  intro nb w1 hn
  refine ⟨fun vs w' => ∃ (k f : Nat) (acc : List El), vs = [.int .i64 k] ∧ k ≤ s.size ∧ s.size - k ≤ f ∧ acc.length ≤ k ∧ compS s f k acc = compS s s.size 0 [] ∧ PatSt w' nb s acc ∧ K0 w w',
    fun vs _ => (match vs with | .int _ x :: _ => s.size - x.toNat | _ => 0), ⟨0, s.size, [], rfl, by omega, by omega, by simp, rfl, ⟨none, 0, 0, hn.block, World.ownsRow_nil _ _ _ _⟩, hn.kp _⟩, fun x w' ⟨k, f, acc, hv, hk, hf, hacc, hS, hst, hw⟩ => ?_⟩
  simp only [List.cons.injEq, Value.int.injEq, true_and, and_true] at hv
  subst hv
  have hnb : nb = w.heap.size := hn.hn
  refine bsp_intro (fun hlt => ?_) (fun hge => ?_)
  · have hlt : k < s.size := by simpa using hlt
    obtain ⟨f, rfl⟩ : ∃ g, f = g + 1 := ⟨f - 1, by omega⟩
    have e0 : (k : Int).toNat = k := by omega
    rw [e0, wr64 (x := (k : Int) + 1) (by omega) (by omega)]
    have e1 : ((k : Int) + 1).toNat = k + 1 := by omega
    rw [e1]
    -- one element more
    have app : ∀ (x : El) (wa : World), PatSt wa nb s acc → K0 w wa → ∀ (p : Option Addr) (n_1 c : Nat), wa.heap[nb]? = some (.cells #[.string s, .slice p n_1 c] 149 (0, 0)) → wa.ownsRow (nb + 1) 167 1 (.slice p n_1 c) n_1 (acc.map El.val) →
        ∀ (n_2 : Nat) (w1 : World), NewB wa (.cells #[x.val] 167) n_2 w1 → ∀ (Y : World → Prop), (∀ w2, PatSt w2 nb s (acc ++ [x]) → K0 w w2 → Y w2) →
        ∃ (base : Nat) (xs news : List Value), w1.ownsRow base 167 1 (.slice p n_1 c) n_1 xs ∧ news.length = 1 ∧ SrcP w1 (some (Addr.mk n_2 0 none)) news ∧ n_1 + 1 ≤ 9223372036854775807 ∧ (n_1 + 1) * 16 ≤ 140737488355328 ∧ base ≤ w1.heap.size ∧
          ∀ (p' : Option Addr) (c' : Nat) (w' : World), w'.ownsRow base 167 1 (.slice p' (n_1 + 1) c') (n_1 + 1) (xs ++ news) → w1.grownBy w' (Value.slice p n_1 c).ownBlock → (n_1 + 1 ≤ c → p' = p ∧ c' = c) →
            ((∃ (u : Value), w'.cell? (Addr.mk nb (0 + 1) none) = some u) ∧ w'.frozen? (Addr.mk nb (0 + 1) none) = false) ∧
              ∀ (w1 : World), PutB w' nb (0 + 1) [Value.slice p' (n_1 + 1) c'] w1 → Y w1 := by
      intro x wa hsta hwa p n_1 c hb ho n_2 w1 hn2 Y hY
      have hl := ho.1
      rw [List.length_map] at hl
      refine app1 ho (block_lt hb) hn2 rfl (fun u hu => by simp at hu; subst hu; exact x.oneCell) (by omega) (by omega) (fun p' c' w' ho' hk' _ => ?_)
      have hne : ∀ k, (Value.slice p n_1 c).ownBlock = some k → ¬ nb = k := fun k hk e => by have := own_ge ho hk; omega
      have hb' : w'.heap[nb]? = some (.cells #[.string s, .slice p n_1 c] 149 (0, 0)) := hk'.blk hb (fun e => hne _ e rfl)
      refine ⟨cell_wr hb' (by simp), fun w2 hp => hY w2 ⟨p', n_1 + 1, c', hp.block hb', ?_⟩ ?_⟩
      · rw [List.map_append]
        exact owns_kp ho' hp.kp (fun k hk e => by have := own_ge ho' hk; omega)
      · have := hwa.size
        exact (hwa.fresh hk' (fun i hi e => by have := own_ge ho e; omega)).fresh hp.kp (fun i hi e => by omega)
    refine ⟨fun vs w2 => ∃ (d : Nat) (acc' : List El), vs = [.int .i64 (d : Int)] ∧ 1 ≤ d ∧ k + d ≤ s.size ∧ acc'.length ≤ k + d ∧ compS s f (k + d) acc' = compS s s.size 0 [] ∧ PatSt w2 nb s acc' ∧ K0 w w2, ⟨⟨by omega, by omega⟩, ?_⟩, fun x_1 w2 ⟨d, acc', hv, hd1, hd2, hd3, hd4, hd5, hd6⟩ => ?_⟩
    · obtain ⟨p, n_1, c, hb, ho⟩ := hst
      refine bsp_intro (fun c1 => ?_) (fun c1 => bsp_intro (fun c2 => ?_) (fun c2 => bsp_intro (fun c3 => ?_) (fun c3 => ?_)))
      · exact ⟨p, n_1, c, cell_at hb rfl, fun n_2 w1 hn2 => app .one w' ⟨p, n_1, c, hb, ho⟩ hw p n_1 c hb ho n_2 w1 hn2 _ (fun w2 h1 h2 => ⟨1, _, rfl, by omega, by omega, by simp; omega, by rw [← hS]; simp [compS, hlt, c1], h1, h2⟩)⟩
      · exact ⟨p, n_1, c, cell_at hb rfl, fun n_2 w1 hn2 => app .star w' ⟨p, n_1, c, hb, ho⟩ hw p n_1 c hb ho n_2 w1 hn2 _ (fun w2 h1 h2 => ⟨1, _, rfl, by omega, by omega, by simp; omega, by rw [← hS]; simp [compS, hlt, c1, c2], h1, h2⟩)⟩
      · have hxs : (s.extract k s.size).size = s.size - k := by rw [ByteArray.size_extract]; omega
        refine ⟨⟨by omega, by omega⟩, ⟨(parseClass_any (s.extract k s.size) w' (by omega) (by omega)).mono fun e w2 he => ?_⟩⟩
        obtain ⟨he, hk2⟩ := he
        have hle := clsN_le (s.extract k s.size) (by omega)
        have hcs0 : compS s (f + 1) k acc = if clsN (s.extract k s.size) = 0 then .inr (k, 3) else compS s f (k + clsN (s.extract k s.size)) (acc ++ [.cls (clsS (s.extract k s.size))]) := by simp [compS, hlt, c1, c2, c3]
        generalize clsN (s.extract k s.size) = cn at he hle hcs0
        generalize clsS (s.extract k s.size) = cs at he hcs0
        refine ⟨cs, cn, he, ?_⟩
        refine bsp_intro (fun c4 => ⟨hw.trans hk2, ?_⟩) (fun c4 => ?_)
        · have c4 : cn = 0 := by simpa using c4
          rw [← hS, hcs0, if_pos c4]
        · have c4 : ¬ cn = 0 := by simpa using c4
          rw [if_neg c4] at hcs0
          have hb2 := hk2.blk hb (fun h => h)
          have ho2 := owns_kp ho hk2 (fun _ _ h => h)
          exact ⟨p, n_1, c, cell_at hb2 rfl, fun n_2 w1 hn2 => app (.cls cs) w2 ⟨p, n_1, c, hb2, ho2⟩ (hw.trans hk2) p n_1 c hb2 ho2 n_2 w1 hn2 _ (fun w2 h1 h2 => ⟨cn, _, rfl, by omega, by omega, by simp; omega, by rw [← hS]; exact hcs0.symm, h1, h2⟩)⟩
      · have hh : decide (Lib.indexByte (ByteArray.mk #[43, 45, 46, 48, 49, 50, 51, 52, 53, 54, 55, 56, 57, 95, 97, 98, 99, 100, 101, 102, 103, 104, 105, 106, 107, 108, 109, 110, 111, 112, 113, 114, 115, 116, 117, 118, 119, 120, 121, 122]).data.toList (at8 s k).toNat.toUInt8 ≥ 0) = hasB nameBytes (at8 s k) := hasB_index nameBytes _
        rw [hh]
        refine bsp_intro (fun c4 => ?_) (fun c4 => ⟨hw, ?_⟩)
        · refine ⟨fun w2 => w2.cell? (Addr.mk nb (0 + 1) none) = some (Value.slice p n_1 c), cell_at (blk_drew hb) rfl, p, n_1, c, fun w2 h => h, ⟨by omega, by omega, by omega⟩, fun n_2 w1 hn2 => ?_⟩
          have hb2 := blk_drew hb
          have ho2 : w'.drew.ownsRow (nb + 1) 167 1 (.slice p n_1 c) n_1 (acc.map El.val) := ho
          refine ⟨cell_at (hn2.kp (fun _ => False) |>.blk hb2 (fun h => h)) rfl, ?_⟩
          exact app (.lit (s.extract k (k + 1))) w'.drew ⟨p, n_1, c, hb2, ho2⟩ hw.drew p n_1 c hb2 ho2 n_2 w1 hn2 _ (fun w2 h1 h2 => ⟨1, _, rfl, by omega, by omega, by simp; omega, by rw [← hS]; simp [compS, hlt, c1, c2, c3, c4], h1, h2⟩)
        · rw [← hS]
          simp [compS, hlt, c1, c2, c3, c4]
    · simp only [List.cons.injEq, Value.int.injEq, true_and, and_true] at hv
      subst hv
      rw [wr64 (by omega) (by omega)]
      exact ⟨⟨k + d, f, acc', by simp, hd2, by omega, hd3, hd4, hd5, hd6⟩, by simp; omega⟩
  · have hge : ¬ k < s.size := by simpa using hge
    refine ⟨hw, ?_⟩
    have : compS s f k acc = .inl acc := by cases f <;> simp [compS, hge]
    rw [← hS, this]
    obtain ⟨p, n, c, hb, ho⟩ := hst
    exact ⟨nb, rfl, p, n, c, hb, by omega, ⟨ho.1, ho.2.imp id fun ⟨g, cap, cur, a1, a2, a3⟩ => ⟨g, cap, cur, a1, by omega, a3⟩⟩, fun k hk => by have := own_ge ho hk; omega⟩

end Go.Proofs.YtkkfnlehlkiejaaGreatDoor

/- The formulas of functions by the symbolic evaluator, and that each gives the call's contract. Written by a program (gen.py). No condition. -/
namespace Go.Proofs.YtkkfnlehlkiejaaGreatDoor
set_option maxRecDepth 100000
set_option linter.unusedVariables false

def VC_match (b : Nat) (o : Nat) (s : ByteArray) (w : World) (R : Ending → World → Prop) : Prop :=
 ∃ (p : Option Addr),
 ∃ (n : Nat),
 ∃ (c : Nat),
 w.cell? (Addr.mk b (o + 1) none) = some (Value.slice p n c) ∧
 (0 ≤ IntKind.i64.wrap ((↑n : Int) + 1) ∧
 IntKind.i64.wrap ((↑n : Int) + 1) ≤ IntKind.i64.wrap ((↑n : Int) + 1) ∧
 (↑1 : Int) * IntKind.i64.wrap ((↑n : Int) + 1) ≤ 281474976710656 ∧
 IntKind.i64.wrap ((↑n : Int) + 1) ≤ 9223372036854775807) ∧
 ∀ (n_1 : Nat) (w1 : World),
 NewB w (Obj.cells (madeCells #[Value.bool false] ((IntKind.i64.wrap ((↑n : Int) + 1)).toNat * 1)) 4) n_1 w1 →
 ((0 : Int) ≤ 0 ∧ 0 < (↑(IntKind.i64.wrap ((↑n : Int) + 1)).toNat : Int)) ∧
 ((∃ (u : Value), w1.cell? (Addr.mk n_1 0 none) = some u) ∧ w1.frozen? (Addr.mk n_1 0 none) = false) ∧
 ∀ (w1_1 : World),
 PutB w1 n_1 0 [Value.bool true] w1_1 →
 CallsS Tryz.prog 90
 #[Value.pointer (some (Addr.mk b o none)),
 Value.slice (some (Addr.mk n_1 0 none)) (IntKind.i64.wrap ((↑n : Int) + 1)).toNat
 (IntKind.i64.wrap ((↑n : Int) + 1)).toNat]
 w1_1 fun (e : Ending) (w' : World) =>
 e = Ending.returned (Value.tuple #[]) ∧
 ∀ (c n_2 : Nat) (w1 : World),
 s.size ≤ c →
 NewB w'.drew (Obj.cells (bytesRow s c) 5 ((bytesRow s c).size, (bytesRow s c).size + 1)) n_2 w1 →
 ∃ (I : List Value → World → Prop),
 ∃ (m : List Value → World → Nat),
 I
 [Value.slice (some (Addr.mk n_1 0 none)) (IntKind.i64.wrap ((↑n : Int) + 1)).toNat
 (IntKind.i64.wrap ((↑n : Int) + 1)).toNat,
 Value.int IntKind.i64 0]
 w1 ∧
 ∀ (p : Option Addr) (n c : Nat) (x : Int) (w' : World),
 I [Value.slice p n c, Value.int IntKind.i64 x] w' →
 bsp (decide (x < (↑s.size : Int)))
 ((0 ≤ x ∧ x < (↑s.size : Int)) ∧
 ∃ (x_1 : Int),
 w'.cell? (Addr.mk n_2 (0 + x.toNat) none) = some (Value.int IntKind.u8 x_1) ∧
 (0 ≤ (↑n : Int) ∧
 (↑n : Int) ≤ (↑n : Int) ∧
 (↑1 : Int) * (↑n : Int) ≤ 281474976710656 ∧ (↑n : Int) ≤ 9223372036854775807) ∧
 ∀ (n_3 : Nat) (w1 : World),
 NewB w' (Obj.cells (madeCells #[Value.bool false] ((↑n : Int).toNat * 1)) 4) n_3 w1 →
 ∃ (p_1 : Option Addr),
 ∃ (n_4 : Nat),
 ∃ (c_1 : Nat),
 w1.cell? (Addr.mk b (o + 1) none) = some (Value.slice p_1 n_4 c_1) ∧
 ∃ (I_1 : List Value → World → Prop),
 ∃ (m_1 : List Value → World → Nat),
 I_1 [Value.int IntKind.i64 0] w1 ∧
 ∀ (x_2 : Int) (w'_1 : World),
 I_1 [Value.int IntKind.i64 x_2] w'_1 →
 bsp (decide (x_2 < (↑n_4 : Int)))
 (∃ (J : List Value → World → Prop),
 (nn true p_1 fun (b o : Nat) =>
 (0 ≤ x_2 ∧ x_2 < (↑n_4 : Int)) ∧
 ∃ (x : Value),
 w'_1.cell? (Addr.mk b (o + x_2.toNat) none) = some x ∧
 nn true p fun (b o : Nat) =>
 (0 ≤ x_2 ∧ x_2 < (↑n : Int)) ∧
 ∃ (x_3 : Bool),
 w'_1.cell? (Addr.mk b (o + x_2.toNat) none) = some (Value.bool x_3) ∧
 bsp (!!x_3)
 (CallsS Tryz.prog 91 #[x, Value.int IntKind.u8 x_1] w'_1
 fun (e : Ending) (w' : World) =>
 ∃ (x_4 : Bool),
 e = Ending.returned (Value.bool x_4) ∧
 bsp (false || !x_4) (J [] w')
 (CallsS Tryz.prog 92 #[x] w' fun (e : Ending) (w' : World) =>
 ∃ (x : Bool),
 e = Ending.returned (Value.bool x) ∧
 bsp x
 ((0 ≤ x_2 ∧ x_2 < (↑(↑n : Int).toNat : Int)) ∧
 ((∃ (u : Value),
 w'.cell? (Addr.mk n_3 (0 + x_2.toNat) none) = some u) ∧
 w'.frozen? (Addr.mk n_3 (0 + x_2.toNat) none) = false) ∧
 ∀ (w1 : World),
 PutB w' n_3 (0 + x_2.toNat) [Value.bool true] w1 → J [] w1)
 ((0 ≤ IntKind.i64.wrap (x_2 + 1) ∧
 IntKind.i64.wrap (x_2 + 1) < (↑(↑n : Int).toNat : Int)) ∧
 ((∃ (u : Value),
 w'.cell?
 (Addr.mk n_3 (0 + (IntKind.i64.wrap (x_2 + 1)).toNat)
 none) =
 some u) ∧
 w'.frozen?
 (Addr.mk n_3 (0 + (IntKind.i64.wrap (x_2 + 1)).toNat)
 none) =
 false) ∧
 ∀ (w1 : World),
 PutB w' n_3 (0 + (IntKind.i64.wrap (x_2 + 1)).toNat)
 [Value.bool true] w1 →
 J [] w1)))
 (J [] w'_1)) ∧
 ∀ (w' : World),
 J [] w' →
 I_1 [Value.int IntKind.i64 (IntKind.i64.wrap (x_2 + 1))] w' ∧
 m_1 [Value.int IntKind.i64 (IntKind.i64.wrap (x_2 + 1))] w' <
 m_1 [Value.int IntKind.i64 x_2] w'_1)
 (CallsS Tryz.prog 90
 #[Value.pointer (some (Addr.mk b o none)),
 Value.slice (some (Addr.mk n_3 0 none)) (↑n : Int).toNat (↑n : Int).toNat]
 w'_1 fun (e : Ending) (w'_2 : World) =>
 e = Ending.returned (Value.tuple #[]) ∧
 I
 [Value.slice (some (Addr.mk n_3 0 none)) (↑n : Int).toNat (↑n : Int).toNat,
 Value.int IntKind.i64 (IntKind.i64.wrap (x + 1))]
 w'_2 ∧
 m
 [Value.slice (some (Addr.mk n_3 0 none)) (↑n : Int).toNat (↑n : Int).toNat,
 Value.int IntKind.i64 (IntKind.i64.wrap (x + 1))]
 w'_2 <
 m [Value.slice p n c, Value.int IntKind.i64 x] w'))
 (∃ (p_1 : Option Addr),
 ∃ (n_3 : Nat),
 ∃ (c : Nat),
 w'.cell? (Addr.mk b (o + 1) none) = some (Value.slice p_1 n_3 c) ∧
 nn true p fun (b o : Nat) =>
 (0 ≤ (↑n_3 : Int) ∧ (↑n_3 : Int) < (↑n : Int)) ∧
 ∃ (x : Bool),
 w'.cell? (Addr.mk b (o + (↑n_3 : Int).toNat) none) = some (Value.bool x) ∧
 R (Ending.returned (Value.bool x)) w')
theorem vc_match (b : Nat) (o : Nat) (s : ByteArray) (w : World) (R : Ending → World → Prop) (h : VC_match b o s w R) : Calls Tryz.prog 68 ([Value.pointer
    (some { block := b, off := o }),
  Value.string s] : List Value).toArray w R := by
  have e : execR { P := Tryz.prog, loops := [(7, [(5, Ck.slice), (28, Ck.int IntKind.i64)]), (11, [(40, Ck.int IntKind.i64)])], pur := pur1, tails := [], joins := [(17, [])], boxes := [] } Tryz.f68.results.toList R (Tryz.f68.body.getD .skip) (initF [Value.pointer
    (some { block := b, off := o }),
  Value.string
    s] (Tryz.f68.ntmps - ([Value.pointer (some { block := b, off := o }),
  Value.string s] : List Value).length)) w = VC_match b o s w R := by kernel_rfl
  have hb : Tryz.f68.body = some (Tryz.f68.body.getD .skip) := by kernel_rfl
  exact calls_of_exec' (P := Tryz.prog) (fn := Tryz.f68) (c := Tryz.f68.body.getD .skip) (args := [Value.pointer
    (some { block := b, off := o }),
  Value.string s]) (w := w) (R := R) pur1_ok Tryz.func68 hb e h

end Go.Proofs.YtkkfnlehlkiejaaGreatDoor
