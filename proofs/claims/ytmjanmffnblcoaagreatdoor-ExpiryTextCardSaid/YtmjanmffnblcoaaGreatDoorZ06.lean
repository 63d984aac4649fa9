/- Plain functions on texts (no program in sight): the tests of characters, the errors of a site's name, searches for a first index. No condition. -/
import Derived.Test.YtmjanmffnblcoaaGreatDoorZ05
import Derived.Test.YtmjanmffnblcoaaGreatDoorProg
import Derived.Test.YtmjanmffnblcoaaGreatDoorZ02
import Derived.KernelRfl
import Derived.Test.YtmjanmffnblcoaaGreatDoorZ03
namespace Go.Proofs.YtmjanmffnblcoaaGreatDoor

theorem at8_lt (s : ByteArray) (k : Nat) (h : k < s.size) : at8 s k = (s[k].toNat : Int) := by simp [at8, h]
theorem at8_bd (s : ByteArray) (k : Nat) : 0 ≤ at8 s k ∧ at8 s k ≤ 255 := by
  unfold at8
  split
  · have := s[k].toNat_lt; omega
  · omega

theorem find_some (p : Nat → Bool) (n k : Nat) (hk : k < n) (h : ∀ j, j < k → p j = false) (hp : p k = true) : (List.range n).find? p = some k := by
  rw [List.find?_range_eq_some]
  exact ⟨hp, List.mem_range.2 hk, fun j hj => by simp [h j hj]⟩
theorem find_none (p : Nat → Bool) (n : Nat) (h : ∀ j, j < n → p j = false) : (List.range n).find? p = none := by
  rw [List.find?_range_eq_none]
  exact fun j hj => by simp [h j hj]

/-- A character of a site's name is at a place where it can't stand. -/
def misB (s : ByteArray) (i : Nat) : Bool :=
  (i == 0 && !lowerB (at8 s i)) || (decide (0 < i) && at8 s i == 46 && at8 s (i - 1) == 46) || (i + 1 == s.size && (at8 s i == 45 || at8 s i == 46))
/-- The offset of the first error of a site's name and its kind. -/
def siteS (s : ByteArray) : Int × Int :=
  if s.size = 0 then (0, 4) else if 30 < s.size then (30, 5) else
  match (List.range s.size).find? (fun i => !permB (at8 s i)) with
  | some i => ((i : Int), 6)
  | none => match (List.range s.size).find? (misB s) with
    | some i => ((i : Int), 12)
    | none => (0, 0)

theorem siteS_byte (s : ByteArray) (k : Nat) (h0 : ¬ s.size = 0) (h1 : ¬ 30 < s.size) (hk : k < s.size) (h : ∀ j, j < k → permB (at8 s j) = true) (hp : permB (at8 s k) = false) : siteS s = ((k : Int), 6) := by
  have := find_some (fun i => !permB (at8 s i)) s.size k hk (fun j hj => by simp [h j hj]) (by simp [hp])
  simp [siteS, h0, h1, this]
theorem siteS_name (s : ByteArray) (k : Nat) (h0 : ¬ s.size = 0) (h1 : ¬ 30 < s.size) (h : ∀ j, j < s.size → permB (at8 s j) = true) (hk : k < s.size) (hm : ∀ j, j < k → misB s j = false) (hp : misB s k = true) : siteS s = ((k : Int), 12) := by
  have a := find_none (fun i => !permB (at8 s i)) s.size (fun j hj => by simp [h j hj])
  have b := find_some (misB s) s.size k hk hm hp
  simp [siteS, h0, h1, a, b]
theorem siteS_ok (s : ByteArray) (h0 : ¬ s.size = 0) (h1 : ¬ 30 < s.size) (h : ∀ j, j < s.size → permB (at8 s j) = true) (hm : ∀ j, j < s.size → misB s j = false) : siteS s = (0, 0) := by
  have a := find_none (fun i => !permB (at8 s i)) s.size (fun j hj => by simp [h j hj])
  have b := find_none (misB s) s.size hm
  simp [siteS, h0, h1, a, b]

/-- A word is a distribution. -/
def distB (s : ByteArray) : Bool := decide (0 < s.size) && decide (s.size ≤ 20) && (List.range s.size).all (fun i => lowerB (at8 s i) || digitB (at8 s i) || at8 s i == 45)

theorem toList_nil (s : ByteArray) : (s.toList == []) = decide (s.size = 0) := by
  have h : s.toList.length = s.size := by rw [ByteArray.toList_eq]; exact s.data.length_toList
  cases hs : s.toList with
  | nil => rw [hs] at h; have h : s.size = 0 := h.symm; rw [h]; rfl
  | cons a r =>
    rw [hs] at h
    have h : s.size = r.length + 1 := h.symm
    have : ¬ s.size = 0 := by omega
    rw [decide_eq_false this]
    rfl
/-- A loop that counts a slot from 0 up to n. -/
theorem count1 {w : World} {F : (List Value → World → Prop) → (List Value → World → Nat) → Int → World → Prop} (n : Nat) (hn : (n : Int) ≤ 9223372036854775807) (J : Nat → World → Prop) (h0 : J 0 w)
    (step : ∀ (I : List Value → World → Prop) (m : List Value → World → Nat) (k : Nat) (w' : World), k ≤ n → J k w' →
      (k < n → ∀ w'', J (k + 1) w'' → I [.int .i64 (IntKind.i64.wrap (k + 1))] w'' ∧ m [.int .i64 (IntKind.i64.wrap (k + 1))] w'' < m [.int .i64 k] w') → F I m k w') :
    ∃ (I : List Value → World → Prop) (m : List Value → World → Nat), I [.int .i64 0] w ∧ ∀ (x : Int) (w' : World), I [.int .i64 x] w' → F I m x w' := by
  refine ⟨fun vs w' => ∃ k : Nat, vs = [.int .i64 k] ∧ k ≤ n ∧ J k w', fun vs _ => (match vs with | [.int _ x] => n - x.toNat | _ => 0), ⟨0, rfl, by omega, h0⟩, fun x w' ⟨k, hv, hk, hJ⟩ => ?_⟩
  have hx : x = (k : Int) := by simpa using hv
  subst hx
  refine step _ _ k w' hk hJ (fun hlt w'' hJ' => ?_)
  rw [show IntKind.i64.wrap ((k : Int) + 1) = ((k + 1 : Nat) : Int) from by rw [wr64 (by omega) (by omega)]; omega]
  exact ⟨⟨k + 1, rfl, by omega, hJ'⟩, by simp; omega⟩

end Go.Proofs.YtmjanmffnblcoaaGreatDoor

/- The contracts of msgid.Site, feedrule.isDistribution, and of the reference's Site and word. A word's length is in the range of int. -/
namespace Go.Proofs.YtmjanmffnblcoaaGreatDoor
open Go.RowKit

end Go.Proofs.YtmjanmffnblcoaaGreatDoor

/- The contract of wildmat.items, by a plain function (which bytes are listed, how long the items are). The text has at most 2^30 bytes. -/
namespace Go.Proofs.YtmjanmffnblcoaaGreatDoor
open Go.RowKit

/-- The string of one byte. -/
def b1 (c : Int) : ByteArray := ⟨#[c.toNat.toUInt8]⟩
theorem b1_size (c : Int) : (b1 c).size = 1 := rfl
theorem byte_inj {c d : Int} (hc : 0 ≤ c ∧ c ≤ 255) (hd : 0 ≤ d ∧ d ≤ 255) : (d.toNat.toUInt8 == c.toNat.toUInt8) = decide (d = c) := by
  rw [Bool.eq_iff_iff]
  simp only [beq_iff_eq, decide_eq_true_eq]
  constructor
  · intro h
    have h1 : d.toNat.toUInt8.toNat = c.toNat.toUInt8.toNat := by rw [h]
    rw [UInt8.toNat_ofNat', UInt8.toNat_ofNat'] at h1
    omega
  · rintro rfl; rfl
theorem hasB_b1 {a : ByteArray} {c d : Int} (hc : 0 ≤ c ∧ c ≤ 255) (hd : 0 ≤ d ∧ d ≤ 255) : hasB (a ++ b1 c) d = (hasB a d || decide (d = c)) := by
  unfold hasB
  have : (a ++ b1 c).data.toList = a.data.toList ++ [c.toNat.toUInt8] := by
    rw [ByteArray.data_append]; simp [b1]
  rw [this, ← byte_inj hc hd, List.contains_append]
  congr 1
  rw [List.contains_cons]
  simp
theorem b1_bytes {w : World} {n : Nat} {c : Int} (hc : 0 ≤ c ∧ c ≤ 255) {t : TypeId} (h : w.heap[n]? = some (.cells #[.int .u8 c] t (0, 0))) : (b1 c).size = 1 ∧ BytesP w (some (Addr.mk n 0 none)) (b1 c) := by
  refine ⟨rfl, ⟨.inr ⟨n, 0, rfl, ?_⟩⟩⟩
  have : byteCells (b1 c) = [.int .u8 c] := by
    simp only [byteCells, b1, List.map_cons, List.map_nil]
    congr 2
    rw [UInt8.toNat_ofNat']
    omega
  rw [this]
  exact cell_block h 0

def alB (c : Int) : Bool := lowerB c || digitB c
/-- A range of characters begins at an index. -/
def rngB (s : ByteArray) (k : Nat) : Bool := alB (at8 s k) && decide (k + 2 < s.size) && at8 s (k + 1) == 45
/-- A range has ends that don't fit. -/
def badB (c l : Int) : Bool := decide (l < c) || lowerB c != lowerB l || digitB c != digitB l
def singB (s : ByteArray) (k : Nat) : Bool := alB (at8 s k) || at8 s k == 43 || at8 s k == 95 || at8 s k == 46 || (at8 s k == 45 && k == 0)
/-- Which bytes the items at the beginning list, and how long they are. -/
def itemsS (s : ByteArray) : Nat → Nat → (Int → Bool) → (Int → Bool) × Nat
  | 0, k, p => (p, k)
  | f + 1, k, p =>
    if k < s.size then
      if rngB s k = true then
        if badB (at8 s k) (at8 s (k + 2)) = true then (p, k)
        else itemsS s f (k + 3) (fun d => p d || (decide (at8 s k ≤ d) && decide (d ≤ at8 s (k + 2))))
      else if singB s k = true then itemsS s f (k + 1) (fun d => p d || decide (d = at8 s k))
      else (p, k)
    else (p, k)
theorem alB_bd {c : Int} (h : alB c = true) : 0 ≤ c ∧ c ≤ 122 := by
  simp [alB, lowerB, digitB] at h; omega
theorem badB_not {c l : Int} (h : badB c l = false) (hc : alB c = true) : c ≤ l ∧ alB l = true := by
  simp [badB] at h
  obtain ⟨⟨h1, h2⟩, h3⟩ := h
  unfold alB at hc ⊢
  rw [← h2, ← h3]
  exact ⟨by omega, hc⟩

theorem items_any (s : ByteArray) (w : World) (hs : s.size ≤ 1073741824) : Calls Tryz.prog 81 #[.string s] w fun e w' =>
    ∃ x : ByteArray, e = .returned (.tuple #[.string x, .int .i64 (itemsS s s.size 0 (fun _ => false)).2]) ∧ (∀ d, 0 ≤ d → d ≤ 255 → hasB x d = (itemsS s s.size 0 (fun _ => false)).1 d) ∧ x.size ≤ 256 * s.size ∧ K0 w w' := by
  refine vc_items s w _ ?_
  unfold VC_items
  refine ⟨fun vs w' => ∃ (k f : Nat) (cs : ByteArray) (p : Int → Bool), vs = [.int .i64 k, .string cs] ∧ k ≤ s.size ∧ s.size - k ≤ f ∧ itemsS s f k p = itemsS s s.size 0 (fun _ => false) ∧
      cs.size ≤ 256 * k ∧ (∀ d, 0 ≤ d → d ≤ 255 → hasB cs d = p d) ∧ K0 w w', fun vs _ => (match vs with | .int _ x :: _ => s.size - x.toNat | _ => 0),
    ⟨0, s.size, ⟨#[]⟩, fun _ => false, rfl, by omega, by omega, rfl, by simp [ByteArray.size], fun d _ _ => rfl, .refl _ _⟩, fun x x_1 w' ⟨k, f, cs, p, hv, hk, hf, hS, hcs, hp, hw⟩ => ?_⟩
  simp only [List.cons.injEq, Value.int.injEq, true_and, Value.string.injEq, and_true] at hv
  obtain ⟨rfl, rfl⟩ := hv
  have fin : itemsS s f k p = (p, k) → (∃ x : ByteArray, Ending.returned (.tuple #[.string x_1, .int .i64 (k : Int)]) = .returned (.tuple #[.string x, .int .i64 (itemsS s s.size 0 (fun _ => false)).2]) ∧
      (∀ d, 0 ≤ d → d ≤ 255 → hasB x d = (itemsS s s.size 0 (fun _ => false)).1 d) ∧ x.size ≤ 256 * s.size ∧ K0 w w') := fun h => by
    rw [← hS, h]
    exact ⟨x_1, rfl, hp, by omega, hw⟩
  refine bsp_intro (fun hlt => ⟨?_, ?_, ?_⟩) (fun hge => ?_)
  · have : k < s.size := by simpa using hlt
    omega
  · have hlt : k < s.size := by simpa using hlt
    refine gimp_intro fun hg => ?_
    simp only [Bool.and_eq_true, decide_eq_true_eq] at hg
    have h2 := hg.2
    rw [wr64 (by omega) (by omega)] at h2
    rw [wr64 (by omega) (by omega)]
    omega
  · have hlt : k < s.size := by simpa using hlt
    rw [wr64 (x := (k : Int) + 2) (by omega) (by omega), wr64 (x := (k : Int) + 1) (by omega) (by omega), wr64 (x := (k : Int) + 3) (by omega) (by omega)]
    have e1 : ((k : Int) + 1).toNat = k + 1 := by omega
    have e2 : ((k : Int) + 2).toNat = k + 2 := by omega
    have e0 : (k : Int).toNat = k := by omega
    rw [e1, e2, e0]
    obtain ⟨f, rfl⟩ : ∃ g, f = g + 1 := ⟨f - 1, by omega⟩
    have hr : ((lowerB (at8 s k) || digitB (at8 s k)) && decide ((k : Int) + 2 < (s.size : Int)) && at8 s (k + 1) == 45) = rngB s k := by
      unfold rngB alB
      congr 2
      apply decide_eq_decide.2; omega
    rw [hr]
    have hbd := at8_bd s k
    refine bsp_intro (fun h1 => ⟨?_, ?_⟩) (fun h1 => ?_)
    · simp [rngB] at h1; omega
    · have h1' := h1
      simp only [rngB, Bool.and_eq_true, decide_eq_true_eq] at h1'
      have hb : (decide (at8 s (k + 2) < at8 s k) || !lowerB (at8 s k) == lowerB (at8 s (k + 2)) || !digitB (at8 s k) == digitB (at8 s (k + 2))) = badB (at8 s k) (at8 s (k + 2)) := rfl
      rw [hb]
      refine bsp_intro (fun h2 => ?_) (fun h2 => ?_)
      · exact fin (by simp [itemsS, hlt, h1, h2])
      · obtain ⟨hle, hal⟩ := badB_not h2 h1'.1.1
        have hlb := alB_bd hal
        have hcb := alB_bd h1'.1.1
        refine ⟨fun vs w1 => ∃ (j : Nat) (cs : ByteArray), vs = [.int .u8 (at8 s k + j), .string cs] ∧ at8 s k + j ≤ at8 s (k + 2) + 1 ∧ cs.size ≤ 256 * k + j ∧
            (∀ d, 0 ≤ d → d ≤ 255 → hasB cs d = (p d || (decide (at8 s k ≤ d) && decide (d < at8 s k + j)))) ∧ K0 w w1, fun vs _ => (match vs with | .int _ x :: _ => (at8 s (k + 2) + 1 - x).toNat | _ => 0),
          ⟨0, x_1, by simp, by omega, by omega, fun d h0 h9 => ?_, hw⟩, fun x_2 x_3 w1 ⟨j, cs, hv, hj, hcs', hp', hw1⟩ => ?_⟩
        · rw [hp d h0 h9]
          have : (decide (at8 s k ≤ d) && decide (d < at8 s k + (0 : Nat))) = false := by simp
          rw [this]; simp
        · simp only [List.cons.injEq, Value.int.injEq, true_and, Value.string.injEq, and_true] at hv
          obtain ⟨rfl, rfl⟩ := hv
          refine bsp_intro (fun h3 => fun n w2 hn => ⟨b1 (at8 s k + j), b1_bytes (by simp at h3; omega) hn.block, ?_, ?_⟩) (fun h3 => ⟨?_, ?_⟩)
          · show (((x_3.size + (b1 (at8 s k + j)).size : Nat) : Int) ≤ 9223372036854775807)
            rw [b1_size]
            simp at h3
            omega
          · have h3 : at8 s k + j ≤ at8 s (k + 2) := by simpa using h3
            have hwr : IntKind.u8.wrap (at8 s k + j + 1) = at8 s k + (j + 1 : Nat) := by
              have : IntKind.u8.wrap (at8 s k + j + 1) = at8 s k + j + 1 := IntWalk.u8_in _ ⟨by omega, by omega⟩
              rw [this]; omega
            rw [hwr]
            refine ⟨⟨j + 1, x_3 ++ b1 (at8 s k + j), rfl, by omega, by rw [ByteArray.size_append, b1_size]; omega, fun d h0 h9 => ?_, hw1.trans (hn.kp _)⟩, by simp; omega⟩
            rw [hasB_b1 (by omega) ⟨h0, h9⟩, hp' d h0 h9, Bool.or_assoc]
            congr 1
            rw [Bool.eq_iff_iff]
            simp
            omega
          · have h3 : ¬ at8 s k + j ≤ at8 s (k + 2) := by simpa using h3
            refine ⟨k + 3, f, x_3, fun d => p d || (decide (at8 s k ≤ d) && decide (d ≤ at8 s (k + 2))), by simp, by omega, by omega, ?_, by omega, fun d h0 h9 => ?_, hw1⟩
            · rw [← hS]
              simp [itemsS, hlt, h1, h2]
            · rw [hp' d h0 h9]
              congr 2
              apply decide_eq_decide.2
              omega
          · simp; omega
    · have hsg : (lowerB (at8 s k) || digitB (at8 s k) || at8 s k == 43 || at8 s k == 95 || at8 s k == 46 || at8 s k == 45 && (k : Int) == 0) = singB s k := by
        unfold singB alB
        congr 2
        rw [Bool.eq_iff_iff]; simp
      rw [hsg]
      refine bsp_intro (fun h2 => fun n w2 hn => ⟨b1 (at8 s k), b1_bytes (by omega) hn.block, ?_, ?_, ?_⟩) (fun h2 => ?_)
      · show (((x_1.size + (b1 (at8 s k)).size : Nat) : Int) ≤ 9223372036854775807)
        rw [b1_size]
        omega
      · refine ⟨k + 1, f, x_1 ++ b1 (at8 s k), fun d => p d || decide (d = at8 s k), by simp, by omega, by omega, ?_, by rw [ByteArray.size_append, b1_size]; omega, fun d h0 h9 => ?_, hw.trans (hn.kp _)⟩
        · rw [← hS]
          simp [itemsS, hlt, h1, h2]
        · rw [hasB_b1 (by omega) ⟨h0, h9⟩, hp d h0 h9]
      · simp; omega
      · exact fin (by simp [itemsS, hlt, h1, h2])
  · have hge : ¬ k < s.size := by simpa using hge
    refine fin ?_
    cases f with
    | zero => rfl
    | succ f => simp [itemsS, hge]

end Go.Proofs.YtmjanmffnblcoaaGreatDoor

/- The contract of wildmat.parseClass, by a plain function. The text has at least one and at most 2^20 bytes. -/
namespace Go.Proofs.YtmjanmffnblcoaaGreatDoor
open Go.RowKit

theorem byteCells_length (s : ByteArray) : (byteCells s).length = s.size := by
  unfold byteCells
  rw [List.length_map]
  exact s.data.length_toList
/-- A row of bytes as a string. -/
theorem owns_bytes {w : World} {base : Nat} {e : TypeId} {p : Option Addr} {n c : Nat} {s : ByteArray} (h : w.ownsRow base e 1 (.slice p n c) n (byteCells s)) : s.size = n ∧ BytesP w p s := by
  have hl := h.1
  rw [byteCells_length] at hl
  refine ⟨by omega, ⟨?_⟩⟩
  rcases h.2 with ⟨_, hn⟩ | ⟨g, cap, cur, hv, _, hg, _, _, _, ht⟩
  · left; omega
  · right
    simp only [Value.slice.injEq] at hv
    refine ⟨g, 0, hv.1, At_of _ 0 fun j v hj => ?_⟩
    rw [Nat.zero_add, cell_block hg]
    rw [← ht, List.getElem?_take] at hj
    split at hj
    · simpa using hj
    · simp at hj

def pickB (x : ByteArray) (neg : Bool) (b : UInt8) : Bool := !(hasB x (b.toNat : Int) == neg)
/-- The characters of a class. -/
def clsB (x : ByteArray) (neg : Bool) : ByteArray := ⟨(nameBytes.data.toList.filter (pickB x neg)).toArray⟩
theorem byteCells_cls (x : ByteArray) (neg : Bool) : byteCells (clsB x neg) = (nameBytes.data.toList.filter (pickB x neg)).map (fun b => Value.int .u8 b.toNat) := by simp [byteCells, clsB]

theorem class_loop {w0 wS : World} {n : Nat} {x : ByteArray} {neg : Bool} {R : ByteArray → World → Prop} {t : TypeId} {fz : Nat × Nat} (hb : wS.heap[n]? = some (.cells (byteCells nameBytes).toArray t fz)) (hK : K0 w0 wS) (hR : ∀ w', K0 w0 w' → R (clsB x neg) w') :
    ∃ (I : List Value → World → Prop), ∃ (m : List Value → World → Nat), I [.int .i64 0, .slice none 0 0] wS ∧
      ∀ (x_2 : Int) (p : Option Addr) (n_1 c : Nat) (w' : World), I [.int .i64 x_2, .slice p n_1 c] w' →
        bsp (decide (x_2 < (↑40 : Int)))
          ((0 ≤ x_2 ∧ x_2 < (↑40 : Int)) ∧
            ∃ (x_3 : Int), w'.cell? (Addr.mk n (0 + x_2.toNat) none) = some (.int .u8 x_3) ∧
              bsp (!decide (Lib.indexByte x.data.toList x_3.toNat.toUInt8 ≥ 0) == neg)
                (∀ (n : Nat) (w1 : World), NewB w' (Obj.cells #[.int .u8 x_3] 5) n w1 →
                  ∃ (base : Nat), ∃ (xs : List Value), ∃ (news : List Value), w1.ownsRow base 5 1 (.slice p n_1 c) n_1 xs ∧ news.length = 1 ∧ SrcP w1 (some (Addr.mk n 0 none)) news ∧
                    n_1 + 1 ≤ 9223372036854775807 ∧ (n_1 + 1) * 1 ≤ 140737488355328 ∧ base ≤ w1.heap.size ∧
                    ∀ (p' : Option Addr) (c' : Nat) (w'_1 : World), w'_1.ownsRow base 5 1 (.slice p' (n_1 + 1) c') (n_1 + 1) (xs ++ news) → w1.grownBy w'_1 (Value.slice p n_1 c).ownBlock → (n_1 + 1 ≤ c → p' = p ∧ c' = c) →
                      I [.int .i64 (IntKind.i64.wrap (x_2 + 1)), .slice p' (n_1 + 1) c'] w'_1 ∧ m [.int .i64 (IntKind.i64.wrap (x_2 + 1)), .slice p' (n_1 + 1) c'] w'_1 < m [.int .i64 x_2, .slice p n_1 c] w')
                (I [.int .i64 (IntKind.i64.wrap (x_2 + 1)), .slice p n_1 c] w' ∧ m [.int .i64 (IntKind.i64.wrap (x_2 + 1)), .slice p n_1 c] w' < m [.int .i64 x_2, .slice p n_1 c] w'))
          (∃ (s : ByteArray), (s.size = n_1 ∧ BytesP w' p s) ∧ R s w') := by
  let l := nameBytes.data.toList
  have hl : l.length = 40 := rfl
  let cell := fun b : UInt8 => Value.int .u8 b.toNat
  refine ⟨fun vs w' => ∃ (k : Nat) (p : Option Addr) (n_1 c : Nat), vs = [.int .i64 k, .slice p n_1 c] ∧ k ≤ 40 ∧ n_1 ≤ k ∧ K0 wS w' ∧ w'.ownsRow wS.heap.size 5 1 (.slice p n_1 c) n_1 (((l.take k).filter (pickB x neg)).map cell),
    fun vs _ => (match vs with | .int _ x :: _ => 40 - x.toNat | _ => 0), ⟨0, none, 0, 0, rfl, by omega, by omega, .refl _ _, World.ownsRow_nil _ _ _ _⟩, fun x_2 p n_1 c w' ⟨k, p', n', c', hv, hk, hn, hw, ho⟩ => ?_⟩
  simp only [List.cons.injEq, Value.int.injEq, true_and, Value.slice.injEq, and_true] at hv
  obtain ⟨rfl, rfl, rfl, rfl⟩ := hv
  have hbw : w'.heap[n]? = some (.cells (byteCells nameBytes).toArray t fz) := hw.blk hb (fun h => h)
  have hnb : n < wS.heap.size := block_lt hb
  refine bsp_intro (fun hlt => ?_) (fun hge => ?_)
  · have hlt : (k : Int) < 40 := of_decide_eq_true hlt
    have hlt : k < 40 := by omega
    have hlk : l[k]? = some (l[k]'(by rw [hl]; exact hlt)) := List.getElem?_eq_getElem _
    generalize hbk : l[k]'(by rw [hl]; exact hlt) = b at hlk
    have hbd := b.toNat_lt
    have htk : l.take (k + 1) = l.take k ++ [b] := by rw [List.take_add_one, hlk]; rfl
    have hwr : IntKind.i64.wrap ((k : Int) + 1) = ((k + 1 : Nat) : Int) := by rw [wr64 (by omega) (by omega)]; omega
    rw [hwr]
    refine ⟨by omega, (b.toNat : Int), ?_, ?_⟩
    · rw [Nat.zero_add, Int.toNat_natCast, cell_block hbw]
      have : (byteCells nameBytes)[k]? = some (.int .u8 b.toNat) := by
        show (l.map fun b => Value.int .u8 b.toNat)[k]? = _
        rw [List.getElem?_map, hlk]; rfl
      simpa using this
    · have hP : (!decide (Lib.indexByte x.data.toList (b.toNat : Int).toNat.toUInt8 ≥ 0) == neg) = pickB x neg b := by
        unfold pickB
        rw [show decide (Lib.indexByte x.data.toList (b.toNat : Int).toNat.toUInt8 ≥ 0) = hasB x (b.toNat : Int) from indexByte_nonneg _ _]
      rw [hP]
      refine bsp_intro (fun hp => fun n2 w1 hn2 => ?_) (fun hp => ⟨⟨k + 1, p, n_1, c, rfl, by omega, by omega, hw, ?_⟩, by simp; omega⟩)
      · have hK1 : K0 wS w1 := hw.trans (hn2.kp _)
        refine ⟨wS.heap.size, _, [.int .u8 b.toNat], owns_kp ho (hn2.kp (fun _ => False)) (fun _ _ h => h), rfl, src_block hn2.block (by simp [Value.oneCell']), by omega, by omega, hK1.size, fun p' c' w2 ho2 hg _ => ?_⟩
        refine ⟨⟨k + 1, p', n_1 + 1, c', rfl, by omega, by omega, hK1.grown hg (fun q hq => .inl (ho.lt q hq).1), ?_⟩, by simp; omega⟩
        rw [htk, List.filter_append, List.map_append]
        simpa [List.filter, hp, cell] using ho2
      · rw [htk, List.filter_append, List.map_append]
        simpa [List.filter, hp] using ho
  · have hge : ¬ (k : Int) < 40 := of_decide_eq_false hge
    have h40 : k = 40 := by omega
    subst h40
    have ht : l.take 40 = l := List.take_of_length_le (by rw [hl]; exact Nat.le_refl _)
    rw [ht, ← byteCells_cls] at ho
    exact ⟨clsB x neg, owns_bytes ho, hR w' (hK.trans hw)⟩

theorem itemsS_le (s : ByteArray) : ∀ (f k : Nat) (p : Int → Bool), k ≤ s.size → (itemsS s f k p).2 ≤ s.size
  | 0, k, p, h => h
  | f + 1, k, p, h => by
    unfold itemsS
    split
    · split
      · rename_i hr
        simp [rngB] at hr
        split
        · exact h
        · exact itemsS_le s f _ _ (by omega)
      · split
        · exact itemsS_le s f _ _ (by omega)
        · exact h
    · exact h
def negB (s : ByteArray) : Bool := Lib.hasPrefix s.data.toList [91, 94]
def fromN (s : ByteArray) : Nat := if negB s = true then 2 else 1
def restB (s : ByteArray) : ByteArray := s.extract (fromN s) s.size
def listS (s : ByteArray) : (Int → Bool) × Nat := itemsS (restB s) (restB s).size 0 (fun _ => false)
/-- The length of the class at the beginning, or 0. -/
def clsN (s : ByteArray) : Nat := if (listS s).2 = 0 ∨ fromN s + (listS s).2 = s.size ∨ at8 s (fromN s + (listS s).2) ≠ 93 then 0 else fromN s + (listS s).2 + 1
/-- The characters of the class at the beginning. -/
def clsS (s : ByteArray) : ByteArray := if clsN s = 0 then ⟨#[]⟩ else ⟨(nameBytes.data.toList.filter fun b => !((listS s).1 b.toNat == negB s)).toArray⟩
theorem hasPrefix_size {s : ByteArray} (h : negB s = true) : 2 ≤ s.size := by
  have hl : s.data.toList.length = s.size := s.data.length_toList
  unfold negB at h
  cases hs : s.data.toList with
  | nil => rw [hs] at h; simp [Lib.hasPrefix] at h
  | cons a r => cases r with
    | nil => rw [hs] at h; simp [Lib.hasPrefix] at h
    | cons b r => rw [hs] at hl; simp at hl; omega
theorem clsB_eq {s x : ByteArray} (h : clsN s ≠ 0) (hx : ∀ d, 0 ≤ d → d ≤ 255 → hasB x d = (listS s).1 d) : clsB x (negB s) = clsS s := by
  unfold clsB clsS
  rw [if_neg h]
  congr 2
  apply List.filter_congr
  intro b _
  unfold pickB
  rw [hx b.toNat (by omega) (by have := b.toNat_lt; omega)]
theorem parseClass_any (s : ByteArray) (w : World) (h1 : 1 ≤ s.size) (hs : s.size ≤ 1048576) : Calls Tryz.prog 62 #[.string s] w fun e w' =>
    e = .returned (.tuple #[.string (clsS s), .int .i64 (clsN s)]) ∧ K0 w w' := by
  refine vc_parseClass s w _ ?_
  unfold VC_parseClass
  have hsz : (restB s).size = s.size - fromN s := by unfold restB; rw [ByteArray.size_extract]; simp
  have key : ∀ (fr : Nat), fr = fromN s → ∀ (e : Ending) (w' : World), (∃ x : ByteArray, e = .returned (.tuple #[.string x, .int .i64 (listS s).2]) ∧ (∀ d, 0 ≤ d → d ≤ 255 → hasB x d = (listS s).1 d) ∧ x.size ≤ 256 * (restB s).size ∧ K0 w w') →
      (fr : Int) ≤ s.size →
      IntKind.i64.wrap ((fr : Int) + (listS s).2) = ((fr + (listS s).2 : Nat) : Int) := fun fr hfr e w' _ hle => by
    have := itemsS_le (restB s) (restB s).size 0 (fun _ => false) (by omega)
    have h2 : (listS s).2 ≤ (restB s).size := this
    rw [hsz] at h2
    rw [wr64 (by omega) (by omega)]; omega
  have hN : ∀ {w' : World}, ((listS s).2 = 0 ∨ fromN s + (listS s).2 = s.size ∨ at8 s (fromN s + (listS s).2) ≠ 93) → K0 w w' →
      (Ending.returned (.tuple #[.string ⟨#[]⟩, .int .i64 0]) = .returned (.tuple #[.string (clsS s), .int .i64 (clsN s)]) ∧ K0 w w') := fun h hk => by
    have h0 : clsN s = 0 := by unfold clsN; rw [if_pos h]
    refine ⟨?_, hk⟩
    unfold clsS
    rw [h0, if_pos rfl]
    rfl
  have core : ∀ (fr : Nat), fr = fromN s → fr ≤ s.size → ∀ (e : Ending) (w' : World), (∃ x : ByteArray, e = .returned (.tuple #[.string x, .int .i64 (listS s).2]) ∧ (∀ d, 0 ≤ d → d ≤ 255 → hasB x d = (listS s).1 d) ∧ x.size ≤ 256 * (restB s).size ∧ K0 w w') →
      ∃ (x : ByteArray), ∃ (x_1 : Int), e = .returned (.tuple #[.string x, .int .i64 x_1]) ∧
        gimp (!(x_1 == 0 || IntKind.i64.wrap ((fr : Int) + x_1) == (↑s.size : Int))) (0 ≤ IntKind.i64.wrap ((fr : Int) + x_1) ∧ IntKind.i64.wrap ((fr : Int) + x_1) < (↑s.size : Int)) ∧
        bsp (x_1 == 0 || IntKind.i64.wrap ((fr : Int) + x_1) == (↑s.size : Int) || at8 s (IntKind.i64.wrap ((fr : Int) + x_1)).toNat != 93)
          (Ending.returned (.tuple #[.string ⟨#[]⟩, .int .i64 0]) = .returned (.tuple #[.string (clsS s), .int .i64 (clsN s)]) ∧ K0 w w')
          (∀ (n : Nat) (w1 : World), NewB w' (Obj.cells (byteCells nameBytes).toArray 5) n w1 → ∀ (w2 : World), MarkB w1 n w2 → clsN s ≠ 0 ∧ K0 w w2 ∧ w2.heap[n]? = some (.cells (byteCells nameBytes).toArray 5 (40, 41)) ∧
            (∀ d, 0 ≤ d → d ≤ 255 → hasB x d = (listS s).1 d) ∧ IntKind.i64.wrap (IntKind.i64.wrap ((fr : Int) + x_1) + 1) = (clsN s : Int)) := fun fr hfr hle e w' he => by
    have hk := key fr hfr e w' he (by omega)
    obtain ⟨x, he, hx, _, hw⟩ := he
    refine ⟨x, _, he, ?_⟩
    rw [hk]
    have h2 : (listS s).2 ≤ (restB s).size := itemsS_le (restB s) (restB s).size 0 (fun _ => false) (by omega)
    rw [hsz] at h2
    have hcond : ((((listS s).2 : Nat) : Int) == 0 || ((fr + (listS s).2 : Nat) : Int) == (↑s.size : Int) || at8 s (((fr + (listS s).2 : Nat) : Int)).toNat != 93) = true ↔ ((listS s).2 = 0 ∨ fromN s + (listS s).2 = s.size ∨ at8 s (fromN s + (listS s).2) ≠ 93) := by
      rw [Int.toNat_natCast, hfr]
      simp only [Bool.or_eq_true, beq_iff_eq, bne_iff_ne, ne_eq, or_assoc]
      constructor
      · rintro (h | h | h)
        · left; omega
        · right; left; omega
        · right; right; exact h
      · rintro (h | h | h)
        · left; omega
        · right; left; omega
        · right; right; exact h
    refine ⟨gimp_intro fun hg => ?_, bsp_intro (fun hc => hN (hcond.1 hc) hw) (fun hc => fun n w1 hn w2 hm => ?_)⟩
    · simp only [Bool.not_eq_true', Bool.or_eq_false_iff, beq_eq_false_iff_ne, ne_eq] at hg
      omega
    · have hc' : ¬ ((listS s).2 = 0 ∨ fromN s + (listS s).2 = s.size ∨ at8 s (fromN s + (listS s).2) ≠ 93) := fun h => by rw [hcond.2 h] at hc; cases hc
      have hcn : clsN s = fromN s + (listS s).2 + 1 := by unfold clsN; rw [if_neg hc']
      refine ⟨by omega, ?_, hm.block hn.block, hx, ?_⟩
      · have := hn.ge
        have := hw.size
        exact (hw.trans (hn.kp _)).fresh hm.kp (fun i hi h => by omega)
      · rw [hcn, ← hfr, wr64 (by omega) (by omega)]; omega
  refine bsp_intro (fun hneg => ?_) (fun hneg => ?_)
  · have hf : fromN s = 2 := by unfold fromN; exact if_pos (show negB s = true from hneg)
    have h2 := hasPrefix_size hneg
    have hr : s.extract 2 s.size = restB s := by unfold restB; rw [hf]
    rw [hr]
    refine ⟨⟨by decide, by omega⟩, ⟨(items_any (restB s) w (by omega)).mono fun e w' he => ?_⟩⟩
    obtain ⟨x, x_1, h3, h4, h5⟩ := core 2 hf.symm h2 e w' he
    refine ⟨x, x_1, h3, h4, bsp_mono h5 (fun h => h) (fun h n w1 hn w2 hm => ?_)⟩
    obtain ⟨q1, q2, q3, q4, q5⟩ := h n w1 hn w2 hm
    refine class_loop q3 q2 (fun w3 hk => ⟨?_, hk⟩)
    rw [show IntKind.i64.wrap (IntKind.i64.wrap (2 + x_1) + 1) = (clsN s : Int) from q5]
    rw [show Lib.hasPrefix s.data.toList [91, 94] = negB s from rfl, clsB_eq q1 q4]
  · have hf : fromN s = 1 := by unfold fromN; rw [if_neg (by rw [show negB s = false from hneg]; decide)]
    have hr : s.extract 1 s.size = restB s := by unfold restB; rw [hf]
    rw [hr]
    refine ⟨⟨by decide, by omega⟩, ⟨(items_any (restB s) w (by omega)).mono fun e w' he => ?_⟩⟩
    obtain ⟨x, x_1, h3, h4, h5⟩ := core 1 hf.symm h1 e w' he
    refine ⟨x, x_1, h3, h4, bsp_mono h5 (fun h => h) (fun h n w1 hn w2 hm => ?_)⟩
    obtain ⟨q1, q2, q3, q4, q5⟩ := h n w1 hn w2 hm
    refine class_loop q3 q2 (fun w3 hk => ⟨?_, hk⟩)
    rw [show IntKind.i64.wrap (IntKind.i64.wrap (1 + x_1) + 1) = (clsN s : Int) from q5]
    rw [show Lib.hasPrefix s.data.toList [91, 94] = negB s from rfl, clsB_eq q1 q4]

end Go.Proofs.YtmjanmffnblcoaaGreatDoor

/- The formulas of functions by the symbolic evaluator, and that each gives the call's contract. Written by a program (gen.py). No condition. -/
namespace Go.Proofs.YtmjanmffnblcoaaGreatDoor
set_option maxRecDepth 100000
set_option linter.unusedVariables false

def VC_compile (s : ByteArray) (w : World) (R : Ending → World → Prop) : Prop :=
 bsp (s.toList == [])
 (R (Ending.returned (Value.tuple #[Value.pointer none, Value.int IntKind.i64 0, Value.int IntKind.i64 4])) w)
 (bsp (decide ((↑s.size : Int) > 80))
 (R (Ending.returned (Value.tuple #[Value.pointer none, Value.int IntKind.i64 80, Value.int IntKind.i64 5])) w)
 (∀ (n : Nat) (w1 : World),
 NewB w (Obj.cells #[Value.string s, Value.slice none 0 0] 127) n w1 →
 ∃ (I : List Value → World → Prop),
 ∃ (m : List Value → World → Nat),
 I [Value.int IntKind.i64 0] w1 ∧
 ∀ (x : Int) (w' : World),
 I [Value.int IntKind.i64 x] w' →
 bsp (decide (x < (↑s.size : Int)))
 (∃ (J : List Value → World → Prop),
 ((0 ≤ x ∧ x < (↑s.size : Int)) ∧
 bsp (at8 s x.toNat == 63)
 (∃ (p : Option Addr),
 ∃ (n_1 : Nat),
 ∃ (c : Nat),
 w'.cell? (Addr.mk n (0 + 1) none) = some (Value.slice p n_1 c) ∧
 ∀ (n_2 : Nat) (w1 : World),
 NewB w' (Obj.cells #[Value.iface 129 (Value.agg #[])] 165) n_2 w1 →
 ∃ (base : Nat),
 ∃ (xs : List Value),
 ∃ (news : List Value),
 w1.ownsRow base 165 1 (Value.slice p n_1 c) n_1 xs ∧
 news.length = 1 ∧
 SrcP w1 (some (Addr.mk n_2 0 none)) news ∧
 n_1 + 1 ≤ 9223372036854775807 ∧
 (n_1 + 1) * 16 ≤ 140737488355328 ∧
 base ≤ w1.heap.size ∧
 ∀ (p' : Option Addr) (c' : Nat) (w' : World),
 w'.ownsRow base 165 1 (Value.slice p' (n_1 + 1) c') (n_1 + 1) (xs ++ news) →
 w1.grownBy w' (Value.slice p n_1 c).ownBlock →
 (n_1 + 1 ≤ c → p' = p ∧ c' = c) →
 ((∃ (u : Value), w'.cell? (Addr.mk n (0 + 1) none) = some u) ∧
 w'.frozen? (Addr.mk n (0 + 1) none) = false) ∧
 ∀ (w1 : World),
 PutB w' n (0 + 1) [Value.slice p' (n_1 + 1) c'] w1 → J [Value.int IntKind.i64 1] w1)
 (bsp (at8 s x.toNat == 42)
 (∃ (p : Option Addr),
 ∃ (n_1 : Nat),
 ∃ (c : Nat),
 w'.cell? (Addr.mk n (0 + 1) none) = some (Value.slice p n_1 c) ∧
 ∀ (n_2 : Nat) (w1 : World),
 NewB w' (Obj.cells #[Value.iface 130 (Value.agg #[])] 165) n_2 w1 →
 ∃ (base : Nat),
 ∃ (xs : List Value),
 ∃ (news : List Value),
 w1.ownsRow base 165 1 (Value.slice p n_1 c) n_1 xs ∧
 news.length = 1 ∧
 SrcP w1 (some (Addr.mk n_2 0 none)) news ∧
 n_1 + 1 ≤ 9223372036854775807 ∧
 (n_1 + 1) * 16 ≤ 140737488355328 ∧
 base ≤ w1.heap.size ∧
 ∀ (p' : Option Addr) (c' : Nat) (w' : World),
 w'.ownsRow base 165 1 (Value.slice p' (n_1 + 1) c') (n_1 + 1) (xs ++ news) →
 w1.grownBy w' (Value.slice p n_1 c).ownBlock →
 (n_1 + 1 ≤ c → p' = p ∧ c' = c) →
 ((∃ (u : Value), w'.cell? (Addr.mk n (0 + 1) none) = some u) ∧
 w'.frozen? (Addr.mk n (0 + 1) none) = false) ∧
 ∀ (w1 : World),
 PutB w' n (0 + 1) [Value.slice p' (n_1 + 1) c'] w1 → J [Value.int IntKind.i64 1] w1)
 (bsp (at8 s x.toNat == 91)
 ((0 ≤ x ∧ x ≤ (↑s.size : Int)) ∧
 CallsS Tryz.prog 62 #[Value.string (s.extract x.toNat s.size)] w' fun (e : Ending) (w' : World) =>
 ∃ (x_1 : ByteArray),
 ∃ (x_2 : Int),
 e = Ending.returned (Value.tuple #[Value.string x_1, Value.int IntKind.i64 x_2]) ∧
 bsp (x_2 == 0)
 (R
 (Ending.returned
 (Value.tuple #[Value.pointer none, Value.int IntKind.i64 x, Value.int IntKind.i64 3]))
 w')
 (∃ (p : Option Addr),
 ∃ (n_1 : Nat),
 ∃ (c : Nat),
 w'.cell? (Addr.mk n (0 + 1) none) = some (Value.slice p n_1 c) ∧
 ∀ (n_2 : Nat) (w1 : World),
 NewB w' (Obj.cells #[Value.iface 131 (Value.string x_1)] 165) n_2 w1 →
 ∃ (base : Nat),
 ∃ (xs : List Value),
 ∃ (news : List Value),
 w1.ownsRow base 165 1 (Value.slice p n_1 c) n_1 xs ∧
 news.length = 1 ∧
 SrcP w1 (some (Addr.mk n_2 0 none)) news ∧
 n_1 + 1 ≤ 9223372036854775807 ∧
 (n_1 + 1) * 16 ≤ 140737488355328 ∧
 base ≤ w1.heap.size ∧
 ∀ (p' : Option Addr) (c' : Nat) (w' : World),
 w'.ownsRow base 165 1 (Value.slice p' (n_1 + 1) c') (n_1 + 1) (xs ++ news) →
 w1.grownBy w' (Value.slice p n_1 c).ownBlock →
 (n_1 + 1 ≤ c → p' = p ∧ c' = c) →
 ((∃ (u : Value), w'.cell? (Addr.mk n (0 + 1) none) = some u) ∧
 w'.frozen? (Addr.mk n (0 + 1) none) = false) ∧
 ∀ (w1 : World),
 PutB w' n (0 + 1) [Value.slice p' (n_1 + 1) c'] w1 →
 J [Value.int IntKind.i64 x_2] w1))
 (bsp
 (decide
 (Lib.indexByte
 (ByteArray.mk
 #[43, 45, 46, 48, 49, 50, 51, 52, 53, 54, 55, 56, 57, 95, 97, 98, 99, 100, 101, 102, 103, 104,
 105, 106, 107, 108, 109, 110, 111, 112, 113, 114, 115, 116, 117, 118, 119, 120, 121,
 122]).data.toList
 (at8 s x.toNat).toNat.toUInt8 ≥
 0))
 (∃ (S : World → Prop),
 S w'.drew ∧
 ∃ (p : Option Addr),
 ∃ (n_1 : Nat),
 ∃ (c : Nat),
 (∀ (w' : World), S w' → w'.cell? (Addr.mk n (0 + 1) none) = some (Value.slice p n_1 c)) ∧
 (0 ≤ x ∧ x ≤ IntKind.i64.wrap (x + 1) ∧ IntKind.i64.wrap (x + 1) ≤ (↑s.size : Int)) ∧
 ∀ (n_2 : Nat) (w1 : World),
 NewB w'.drew
 (Obj.cells
 #[Value.iface 135 (Value.string (s.extract x.toNat (IntKind.i64.wrap (x + 1)).toNat))] 165)
 n_2 w1 →
 S w1 ∧
 ∃ (base : Nat),
 ∃ (xs : List Value),
 ∃ (news : List Value),
 w1.ownsRow base 165 1 (Value.slice p n_1 c) n_1 xs ∧
 news.length = 1 ∧
 SrcP w1 (some (Addr.mk n_2 0 none)) news ∧
 n_1 + 1 ≤ 9223372036854775807 ∧
 (n_1 + 1) * 16 ≤ 140737488355328 ∧
 base ≤ w1.heap.size ∧
 ∀ (p' : Option Addr) (c' : Nat) (w' : World),
 w'.ownsRow base 165 1 (Value.slice p' (n_1 + 1) c') (n_1 + 1) (xs ++ news) →
 w1.grownBy w' (Value.slice p n_1 c).ownBlock →
 (n_1 + 1 ≤ c → p' = p ∧ c' = c) →
 ((∃ (u : Value), w'.cell? (Addr.mk n (0 + 1) none) = some u) ∧
 w'.frozen? (Addr.mk n (0 + 1) none) = false) ∧
 ∀ (w1 : World),
 PutB w' n (0 + 1) [Value.slice p' (n_1 + 1) c'] w1 →
 J [Value.int IntKind.i64 1] w1)
 (R
 (Ending.returned
 (Value.tuple #[Value.pointer none, Value.int IntKind.i64 x, Value.int IntKind.i64 6]))
 w'))))) ∧
 ∀ (x_1 : Int) (w'_1 : World),
 J [Value.int IntKind.i64 x_1] w'_1 →
 I [Value.int IntKind.i64 (IntKind.i64.wrap (x + x_1))] w'_1 ∧
 m [Value.int IntKind.i64 (IntKind.i64.wrap (x + x_1))] w'_1 < m [Value.int IntKind.i64 x] w')
 (R
 (Ending.returned
 (Value.tuple #[Value.pointer (some (Addr.mk n 0 none)), Value.int IntKind.i64 0, Value.int IntKind.i64 0]))
 w')))
theorem vc_compile (s : ByteArray) (w : World) (R : Ending → World → Prop) (h : VC_compile s w R) : Calls Tryz.prog 37 ([Value.string
    s] : List Value).toArray w R := by
  have e : execR { P := Tryz.prog, loops := [(7, [(6, Ck.int IntKind.i64)])], pur := pur1, tails := [(22, 11)], joins := [(23, [(7, Ck.int IntKind.i64)])], boxes := [] } Tryz.f37.results.toList R (Tryz.f37.body.getD .skip) (initF [Value.string
    s] (Tryz.f37.ntmps - ([Value.string s] : List Value).length)) w = VC_compile s w R := by kernel_rfl
  have hb : Tryz.f37.body = some (Tryz.f37.body.getD .skip) := by kernel_rfl
  exact calls_of_exec' (P := Tryz.prog) (fn := Tryz.f37) (c := Tryz.f37.body.getD .skip) (args := [Value.string
    s]) (w := w) (R := R) pur1_ok Tryz.func37 hb e h

end Go.Proofs.YtmjanmffnblcoaaGreatDoor

/- The contract of wildmat.Compile, by a plain function. No condition. -/
namespace Go.Proofs.YtmjanmffnblcoaaGreatDoor
open Go.RowKit

/-- A pattern in the memory: its block and its row of elements lie where D says. -/
def PatR (D : Nat → Prop) (w : World) (b : Nat) (s : ByteArray) (els : List El) : Prop :=
  ∃ (p : Option Addr) (n c : Nat), w.heap[b]? = some (.cells #[.string s, .slice p n c] 127 (0, 0)) ∧ D b ∧ w.ownsRow 0 165 1 (.slice p n c) n (els.map El.val) ∧ ∀ k, (Value.slice p n c).ownBlock = some k → D k
theorem PatR.kp {D M : Nat → Prop} {w w' : World} {b : Nat} {s : ByteArray} {els : List El} (h : PatR D w b s els) (hk : Kp M w w') (hm : ∀ k, D k → k < w.heap.size → ¬ M k) : PatR D w' b s els := by
  obtain ⟨p, n, c, h1, h2, h3, h4⟩ := h
  exact ⟨p, n, c, hk.blk h1 (hm b h2 (block_lt h1)), h2, owns_kp h3 hk (fun k hk => hm k (h4 k hk) (own_lt h3 hk)), h4⟩
/-- Blocks of other types are written. -/
theorem PatR.kpT {D M : Nat → Prop} {w w' : World} {b : Nat} {s : ByteArray} {els : List El} (h : PatR D w b s els) (hk : Kp M w w') (hm : ∀ k c t f, M k → w.heap[k]? = some (.cells c t f) → t ≠ 127 ∧ t ≠ 165) : PatR D w' b s els := by
  obtain ⟨p, n, c, h1, h2, h3, h4⟩ := h
  refine ⟨p, n, c, hk.blk h1 (fun hM => (hm b _ _ _ hM h1).1 rfl), h2, owns_kp h3 hk (fun k hk hM => ?_), h4⟩
  obtain ⟨cc, hc⟩ := own_type h3 hk
  exact (hm k _ _ _ hM hc).2 rfl
theorem PatR.mono {D D' : Nat → Prop} {w : World} {b : Nat} {s : ByteArray} {els : List El} (h : PatR D w b s els) (hd : ∀ k, D k → k < w.heap.size → D' k) : PatR D' w b s els := by
  obtain ⟨p, n, c, h1, h2, h3, h4⟩ := h
  exact ⟨p, n, c, h1, hd b h2 (block_lt h1), h3, fun k hk => hd k (h4 k hk) (own_lt h3 hk)⟩

/-- The elements of a pattern from an index on, or the offset and the kind of the error. -/
def compS (s : ByteArray) : Nat → Nat → List El → List El ⊕ (Nat × Int)
  | 0, _, acc => .inl acc
  | f + 1, k, acc =>
    if k < s.size then
      if (at8 s k == 63) = true then compS s f (k + 1) (acc ++ [.one])
      else if (at8 s k == 42) = true then compS s f (k + 1) (acc ++ [.star])
      else if (at8 s k == 91) = true then
        if clsN (s.extract k s.size) = 0 then .inr (k, 3) else compS s f (k + clsN (s.extract k s.size)) (acc ++ [.cls (clsS (s.extract k s.size))])
      else if hasB nameBytes (at8 s k) = true then compS s f (k + 1) (acc ++ [.lit (s.extract k (k + 1))])
      else .inr (k, 6)
    else .inl acc
def compileR (s : ByteArray) : List El ⊕ (Nat × Int) :=
  if s.size = 0 then .inr (0, 4) else if 80 < s.size then .inr (80, 5) else compS s s.size 0 []
theorem clsN_le (s : ByteArray) (h : 1 ≤ s.size) : clsN s ≤ s.size := by
  unfold clsN
  split
  · omega
  · rename_i hn
    have h1 := itemsS_le (restB s) (restB s).size 0 (fun _ => false) (by omega)
    have h2 : (restB s).size = s.size - fromN s := by unfold restB; rw [ByteArray.size_extract]; omega
    have h3 : fromN s ≤ s.size := by
      unfold fromN
      split
      · rename_i hneg; exact hasPrefix_size hneg
      · exact h
    have h4 : (listS s).2 ≤ s.size - fromN s := by unfold listS; omega
    have h5 : ¬ fromN s + (listS s).2 = s.size := fun e => hn (.inr (.inl e))
    omega
theorem El.oneCell (x : El) : (x.val).oneCell' = true := by cases x <;> rfl
theorem hasB_index (x : ByteArray) (c : Int) : decide (Lib.indexByte x.data.toList c.toNat.toUInt8 ≥ 0) = hasB x c := by
  exact indexByte_nonneg _ _

/-- A pattern that is being made. -/
def PatSt (w : World) (nb : Nat) (s : ByteArray) (acc : List El) : Prop :=
  ∃ (p : Option Addr) (n c : Nat), w.heap[nb]? = some (.cells #[.string s, .slice p n c] 127 (0, 0)) ∧ w.ownsRow (nb + 1) 165 1 (.slice p n c) n (acc.map El.val)
theorem PatSt.kp {w w' : World} {nb : Nat} {s : ByteArray} {acc : List El} (h : PatSt w nb s acc) (hk : K0 w w') : PatSt w' nb s acc := by
  obtain ⟨p, n, c, h1, h2⟩ := h
  exact ⟨p, n, c, hk.blk h1 (fun h => h), owns_kp h2 hk (fun _ _ h => h)⟩

set_option maxHeartbeats 400000 in
theorem compile_any (s : ByteArray) (w : World) : Calls Tryz.prog 37 #[.string s] w fun e w' => K0 w w' ∧
    match compileR s with
    | .inl els => ∃ b, e = .returned (.tuple #[.pointer (some ⟨b, 0, none⟩), .int .i64 0, .int .i64 0]) ∧ PatR (fun k => w.heap.size ≤ k) w' b s els
    | .inr (o, x) => e = .returned (.tuple #[.pointer none, .int .i64 o, .int .i64 x]) := by
  refine vc_compile s w _ ?_
  unfold VC_compile
  rw [toList_nil]
  refine bsp_intro (fun h0 => ?_) (fun h0 => bsp_intro (fun h1 => ?_) (fun h1 => ?_))
  · have h0 : s.size = 0 := by simpa using h0
    refine ⟨.refl _ _, ?_⟩
    simp only [compileR, h0, if_true]
    rfl
  · have h0 : ¬ s.size = 0 := by simpa using h0
    have h1 : 80 < s.size := by simp at h1; omega
    refine ⟨.refl _ _, ?_⟩
    simp only [compileR, h0, h1, if_true, if_false]
    rfl
  have h0 : ¬ s.size = 0 := by simpa using h0
  have h1 : ¬ 80 < s.size := by simp at h1; omega
  have hR : compileR s = compS s s.size 0 [] := by simp only [compileR, h0, h1, if_false]
  rw [hR]
  intro nb w1 hn
  refine ⟨fun vs w' => ∃ (k f : Nat) (acc : List El), vs = [.int .i64 k] ∧ k ≤ s.size ∧ s.size - k ≤ f ∧ acc.length ≤ k ∧ compS s f k acc = compS s s.size 0 [] ∧ PatSt w' nb s acc ∧ K0 w w',
    fun vs _ => (match vs with | .int _ x :: _ => s.size - x.toNat | _ => 0), ⟨0, s.size, [], rfl, by omega, by omega, by simp, rfl, ⟨none, 0, 0, hn.block, World.ownsRow_nil _ _ _ _⟩, hn.kp _⟩, fun x w' ⟨k, f, acc, hv, hk, hf, hacc, hS, hst, hw⟩ => ?_⟩
  simp only [List.cons.injEq, Value.int.injEq, true_and, and_true] at hv
  subst hv
  have hnb : nb = w.heap.size := hn.hn
  refine bsp_intro (fun hlt => ?_) (fun hge => ?_)
  · have hlt : k < s.size := by simpa using hlt
    obtain ⟨f, rfl⟩ : ∃ g, f = g + 1 := ⟨f - 1, by omega⟩
    have e0 : (k : Int).toNat = k := by omega
    rw [e0, wr64 (x := (k : Int) + 1) (by omega) (by omega)]
    have e1 : ((k : Int) + 1).toNat = k + 1 := by omega
    rw [e1]
    -- one element more
    have app : ∀ (x : El) (wa : World), PatSt wa nb s acc → K0 w wa → ∀ (p : Option Addr) (n_1 c : Nat), wa.heap[nb]? = some (.cells #[.string s, .slice p n_1 c] 127 (0, 0)) → wa.ownsRow (nb + 1) 165 1 (.slice p n_1 c) n_1 (acc.map El.val) →
        ∀ (n_2 : Nat) (w1 : World), NewB wa (.cells #[x.val] 165) n_2 w1 → ∀ (Y : World → Prop), (∀ w2, PatSt w2 nb s (acc ++ [x]) → K0 w w2 → Y w2) →
        ∃ (base : Nat) (xs news : List Value), w1.ownsRow base 165 1 (.slice p n_1 c) n_1 xs ∧ news.length = 1 ∧ SrcP w1 (some (Addr.mk n_2 0 none)) news ∧ n_1 + 1 ≤ 9223372036854775807 ∧ (n_1 + 1) * 16 ≤ 140737488355328 ∧ base ≤ w1.heap.size ∧
          ∀ (p' : Option Addr) (c' : Nat) (w' : World), w'.ownsRow base 165 1 (.slice p' (n_1 + 1) c') (n_1 + 1) (xs ++ news) → w1.grownBy w' (Value.slice p n_1 c).ownBlock → (n_1 + 1 ≤ c → p' = p ∧ c' = c) →
            ((∃ (u : Value), w'.cell? (Addr.mk nb (0 + 1) none) = some u) ∧ w'.frozen? (Addr.mk nb (0 + 1) none) = false) ∧
              ∀ (w1 : World), PutB w' nb (0 + 1) [Value.slice p' (n_1 + 1) c'] w1 → Y w1 := by
      intro x wa hsta hwa p n_1 c hb ho n_2 w1 hn2 Y hY
      have hl := ho.1
      rw [List.length_map] at hl
      refine app1 ho (block_lt hb) hn2 rfl (fun u hu => by simp at hu; subst hu; exact x.oneCell) (by omega) (by omega) (fun p' c' w' ho' hk' _ => ?_)
      have hne : ∀ k, (Value.slice p n_1 c).ownBlock = some k → ¬ nb = k := fun k hk e => by have := own_ge ho hk; omega
      have hb' : w'.heap[nb]? = some (.cells #[.string s, .slice p n_1 c] 127 (0, 0)) := hk'.blk hb (fun e => hne _ e rfl)
      refine ⟨cell_wr hb' (by simp), fun w2 hp => hY w2 ⟨p', n_1 + 1, c', hp.block hb', ?_⟩ ?_⟩
      · rw [List.map_append]
        exact owns_kp ho' hp.kp (fun k hk e => by have := own_ge ho' hk; omega)
      · have := hwa.size
        exact (hwa.fresh hk' (fun i hi e => by have := own_ge ho e; omega)).fresh hp.kp (fun i hi e => by omega)
    refine ⟨fun vs w2 => ∃ (d : Nat) (acc' : List El), vs = [.int .i64 (d : Int)] ∧ 1 ≤ d ∧ k + d ≤ s.size ∧ acc'.length ≤ k + d ∧ compS s f (k + d) acc' = compS s s.size 0 [] ∧ PatSt w2 nb s acc' ∧ K0 w w2, ⟨⟨by omega, by omega⟩, ?_⟩, fun x_1 w2 ⟨d, acc', hv, hd1, hd2, hd3, hd4, hd5, hd6⟩ => ?_⟩
    · obtain ⟨p, n_1, c, hb, ho⟩ := hst
      refine bsp_intro (fun c1 => ?_) (fun c1 => bsp_intro (fun c2 => ?_) (fun c2 => bsp_intro (fun c3 => ?_) (fun c3 => ?_)))
      · exact ⟨p, n_1, c, cell_at hb rfl, fun n_2 w1 hn2 => app .one w' ⟨p, n_1, c, hb, ho⟩ hw p n_1 c hb ho n_2 w1 hn2 _ (fun w2 h1 h2 => ⟨1, _, rfl, by omega, by omega, by simp; omega, by rw [← hS]; simp [compS, hlt, c1], h1, h2⟩)⟩
      · exact ⟨p, n_1, c, cell_at hb rfl, fun n_2 w1 hn2 => app .star w' ⟨p, n_1, c, hb, ho⟩ hw p n_1 c hb ho n_2 w1 hn2 _ (fun w2 h1 h2 => ⟨1, _, rfl, by omega, by omega, by simp; omega, by rw [← hS]; simp [compS, hlt, c1, c2], h1, h2⟩)⟩
      · have hxs : (s.extract k s.size).size = s.size - k := by rw [ByteArray.size_extract]; omega
        refine ⟨⟨by omega, by omega⟩, ⟨(parseClass_any (s.extract k s.size) w' (by omega) (by omega)).mono fun e w2 he => ?_⟩⟩
        obtain ⟨he, hk2⟩ := he
        have hle := clsN_le (s.extract k s.size) (by omega)
        have hcs0 : compS s (f + 1) k acc = if clsN (s.extract k s.size) = 0 then .inr (k, 3) else compS s f (k + clsN (s.extract k s.size)) (acc ++ [.cls (clsS (s.extract k s.size))]) := by simp [compS, hlt, c1, c2, c3]
        generalize clsN (s.extract k s.size) = cn at he hle hcs0
        generalize clsS (s.extract k s.size) = cs at he hcs0
        refine ⟨cs, cn, he, ?_⟩
        refine bsp_intro (fun c4 => ⟨hw.trans hk2, ?_⟩) (fun c4 => ?_)
        · have c4 : cn = 0 := by simpa using c4
          rw [← hS, hcs0, if_pos c4]
        · have c4 : ¬ cn = 0 := by simpa using c4
          rw [if_neg c4] at hcs0
          have hb2 := hk2.blk hb (fun h => h)
          have ho2 := owns_kp ho hk2 (fun _ _ h => h)
          exact ⟨p, n_1, c, cell_at hb2 rfl, fun n_2 w1 hn2 => app (.cls cs) w2 ⟨p, n_1, c, hb2, ho2⟩ (hw.trans hk2) p n_1 c hb2 ho2 n_2 w1 hn2 _ (fun w2 h1 h2 => ⟨cn, _, rfl, by omega, by omega, by simp; omega, by rw [← hS]; exact hcs0.symm, h1, h2⟩)⟩
      · have hh : decide (Lib.indexByte (ByteArray.mk #[43, 45, 46, 48, 49, 50, 51, 52, 53, 54, 55, 56, 57, 95, 97, 98, 99, 100, 101, 102, 103, 104, 105, 106, 107, 108, 109, 110, 111, 112, 113, 114, 115, 116, 117, 118, 119, 120, 121, 122]).data.toList (at8 s k).toNat.toUInt8 ≥ 0) = hasB nameBytes (at8 s k) := hasB_index nameBytes _
        rw [hh]
        refine bsp_intro (fun c4 => ?_) (fun c4 => ⟨hw, ?_⟩)
        · refine ⟨fun w2 => w2.cell? (Addr.mk nb (0 + 1) none) = some (Value.slice p n_1 c), cell_at (blk_drew hb) rfl, p, n_1, c, fun w2 h => h, ⟨by omega, by omega, by omega⟩, fun n_2 w1 hn2 => ?_⟩
          have hb2 := blk_drew hb
          have ho2 : w'.drew.ownsRow (nb + 1) 165 1 (.slice p n_1 c) n_1 (acc.map El.val) := ho
          refine ⟨cell_at (hn2.kp (fun _ => False) |>.blk hb2 (fun h => h)) rfl, ?_⟩
          exact app (.lit (s.extract k (k + 1))) w'.drew ⟨p, n_1, c, hb2, ho2⟩ hw.drew p n_1 c hb2 ho2 n_2 w1 hn2 _ (fun w2 h1 h2 => ⟨1, _, rfl, by omega, by omega, by simp; omega, by rw [← hS]; simp [compS, hlt, c1, c2, c3, c4], h1, h2⟩)
        · rw [← hS]
          simp [compS, hlt, c1, c2, c3, c4]
    · simp only [List.cons.injEq, Value.int.injEq, true_and, and_true] at hv
      subst hv
      rw [wr64 (by omega) (by omega)]
      exact ⟨⟨k + d, f, acc', by simp, hd2, by omega, hd3, hd4, hd5, hd6⟩, by simp; omega⟩
  · have hge : ¬ k < s.size := by simpa using hge
    refine ⟨hw, ?_⟩
    have : compS s f k acc = .inl acc := by cases f <;> simp [compS, hge]
    rw [← hS, this]
    obtain ⟨p, n, c, hb, ho⟩ := hst
    exact ⟨nb, rfl, p, n, c, hb, by omega, ⟨ho.1, ho.2.imp id fun ⟨g, cap, cur, a1, a2, a3⟩ => ⟨g, cap, cur, a1, by omega, a3⟩⟩, fun k hk => by have := own_ge ho hk; omega⟩

end Go.Proofs.YtmjanmffnblcoaaGreatDoor

/- Compiled patterns are short, errors are not 0 (plain). No condition. -/
namespace Go.Proofs.YtmjanmffnblcoaaGreatDoor

theorem compS_len (s : ByteArray) : ∀ (f k : Nat) (acc els : List El), compS s f k acc = .inl els → els.length ≤ acc.length + f
  | 0, k, acc, els, h => by simp [compS] at h; subst h; omega
  | f + 1, k, acc, els, h => by
    unfold compS at h
    have ih := compS_len s f
    repeat' split at h
    all_goals first
      | (have := ih _ _ _ h; simp at this; omega)
      | (cases h; omega)
      | (cases h)
theorem compileR_len {s : ByteArray} {els : List El} (h : compileR s = .inl els) : els.length ≤ 80 := by
  unfold compileR at h
  split at h
  · cases h
  · split at h
    · cases h
    · have := compS_len s _ _ _ _ h; simp at this; omega
theorem compileR_off (s : ByteArray) (o : Nat) (e : Int) (h : compileR s = .inr (o, e)) : o ≤ 80 ∧ e ≠ 0 := by
  have key : ∀ (f k : Nat) (acc : List El), s.size ≤ 80 → compS s f k acc = .inr (o, e) → o ≤ 80 ∧ e ≠ 0 := by
    intro f
    induction f with
    | zero => intro k acc _ h; simp [compS] at h
    | succ f ih =>
      intro k acc hs h
      unfold compS at h
      repeat' split at h
      all_goals first
        | exact ih _ _ hs h
        | (simp at h; obtain ⟨rfl, rfl⟩ := h; exact ⟨by omega, by decide⟩)
        | (cases h)
  unfold compileR at h
  split at h
  · cases h; exact ⟨by omega, by decide⟩
  · split at h
    · cases h; exact ⟨by omega, by decide⟩
    · exact key _ _ _ (by omega) h


end Go.Proofs.YtmjanmffnblcoaaGreatDoor

/- The formulas of functions by the symbolic evaluator, and that each gives the call's contract. Written by a program (gen.py). No condition. -/
namespace Go.Proofs.YtmjanmffnblcoaaGreatDoor
set_option maxRecDepth 100000
set_option linter.unusedVariables false

def VC_match (b : Nat) (o : Nat) (s : ByteArray) (w : World) (R : Ending → World → Prop) : Prop :=
 ∃ (p : Option Addr),
 ∃ (n : Nat),
 ∃ (c : Nat),
 w.cell? (Addr.mk b (o + 1) none) = some (Value.slice p n c) ∧
 (0 ≤ IntKind.i64.wrap ((↑n : Int) + 1) ∧
 IntKind.i64.wrap ((↑n : Int) + 1) ≤ IntKind.i64.wrap ((↑n : Int) + 1) ∧
 (↑1 : Int) * IntKind.i64.wrap ((↑n : Int) + 1) ≤ 281474976710656 ∧
 IntKind.i64.wrap ((↑n : Int) + 1) ≤ 9223372036854775807) ∧
 ∀ (n_1 : Nat) (w1 : World),
 NewB w (Obj.cells (madeCells #[Value.bool false] ((IntKind.i64.wrap ((↑n : Int) + 1)).toNat * 1)) 4) n_1 w1 →
 ((0 : Int) ≤ 0 ∧ 0 < (↑(IntKind.i64.wrap ((↑n : Int) + 1)).toNat : Int)) ∧
 ((∃ (u : Value), w1.cell? (Addr.mk n_1 0 none) = some u) ∧ w1.frozen? (Addr.mk n_1 0 none) = false) ∧
 ∀ (w1_1 : World),
 PutB w1 n_1 0 [Value.bool true] w1_1 →
 CallsS Tryz.prog 94
 #[Value.pointer (some (Addr.mk b o none)),
 Value.slice (some (Addr.mk n_1 0 none)) (IntKind.i64.wrap ((↑n : Int) + 1)).toNat
 (IntKind.i64.wrap ((↑n : Int) + 1)).toNat]
 w1_1 fun (e : Ending) (w' : World) =>
 e = Ending.returned (Value.tuple #[]) ∧
 ∀ (c n_2 : Nat) (w1 : World),
 s.size ≤ c →
 NewB w'.drew (Obj.cells (bytesRow s c) 5 ((bytesRow s c).size, (bytesRow s c).size + 1)) n_2 w1 →
 ∃ (I : List Value → World → Prop),
 ∃ (m : List Value → World → Nat),
 I
 [Value.slice (some (Addr.mk n_1 0 none)) (IntKind.i64.wrap ((↑n : Int) + 1)).toNat
 (IntKind.i64.wrap ((↑n : Int) + 1)).toNat,
 Value.int IntKind.i64 0]
 w1 ∧
 ∀ (p : Option Addr) (n c : Nat) (x : Int) (w' : World),
 I [Value.slice p n c, Value.int IntKind.i64 x] w' →
 bsp (decide (x < (↑s.size : Int)))
 ((0 ≤ x ∧ x < (↑s.size : Int)) ∧
 ∃ (x_1 : Int),
 w'.cell? (Addr.mk n_2 (0 + x.toNat) none) = some (Value.int IntKind.u8 x_1) ∧
 (0 ≤ (↑n : Int) ∧
 (↑n : Int) ≤ (↑n : Int) ∧
 (↑1 : Int) * (↑n : Int) ≤ 281474976710656 ∧ (↑n : Int) ≤ 9223372036854775807) ∧
 ∀ (n_3 : Nat) (w1 : World),
 NewB w' (Obj.cells (madeCells #[Value.bool false] ((↑n : Int).toNat * 1)) 4) n_3 w1 →
 ∃ (p_1 : Option Addr),
 ∃ (n_4 : Nat),
 ∃ (c_1 : Nat),
 w1.cell? (Addr.mk b (o + 1) none) = some (Value.slice p_1 n_4 c_1) ∧
 ∃ (I_1 : List Value → World → Prop),
 ∃ (m_1 : List Value → World → Nat),
 I_1 [Value.int IntKind.i64 0] w1 ∧
 ∀ (x_2 : Int) (w'_1 : World),
 I_1 [Value.int IntKind.i64 x_2] w'_1 →
 bsp (decide (x_2 < (↑n_4 : Int)))
 (∃ (J : List Value → World → Prop),
 (nn true p_1 fun (b o : Nat) =>
 (0 ≤ x_2 ∧ x_2 < (↑n_4 : Int)) ∧
 ∃ (x : Value),
 w'_1.cell? (Addr.mk b (o + x_2.toNat) none) = some x ∧
 nn true p fun (b o : Nat) =>
 (0 ≤ x_2 ∧ x_2 < (↑n : Int)) ∧
 ∃ (x_3 : Bool),
 w'_1.cell? (Addr.mk b (o + x_2.toNat) none) = some (Value.bool x_3) ∧
 bsp (!!x_3)
 (CallsS Tryz.prog 95 #[x, Value.int IntKind.u8 x_1] w'_1
 fun (e : Ending) (w' : World) =>
 ∃ (x_4 : Bool),
 e = Ending.returned (Value.bool x_4) ∧
 bsp (false || !x_4) (J [] w')
 (CallsS Tryz.prog 96 #[x] w' fun (e : Ending) (w' : World) =>
 ∃ (x : Bool),
 e = Ending.returned (Value.bool x) ∧
 bsp x
 ((0 ≤ x_2 ∧ x_2 < (↑(↑n : Int).toNat : Int)) ∧
 ((∃ (u : Value),
 w'.cell? (Addr.mk n_3 (0 + x_2.toNat) none) = some u) ∧
 w'.frozen? (Addr.mk n_3 (0 + x_2.toNat) none) = false) ∧
 ∀ (w1 : World),
 PutB w' n_3 (0 + x_2.toNat) [Value.bool true] w1 → J [] w1)
 ((0 ≤ IntKind.i64.wrap (x_2 + 1) ∧
 IntKind.i64.wrap (x_2 + 1) < (↑(↑n : Int).toNat : Int)) ∧
 ((∃ (u : Value),
 w'.cell?
 (Addr.mk n_3 (0 + (IntKind.i64.wrap (x_2 + 1)).toNat)
 none) =
 some u) ∧
 w'.frozen?
 (Addr.mk n_3 (0 + (IntKind.i64.wrap (x_2 + 1)).toNat)
 none) =
 false) ∧
 ∀ (w1 : World),
 PutB w' n_3 (0 + (IntKind.i64.wrap (x_2 + 1)).toNat)
 [Value.bool true] w1 →
 J [] w1)))
 (J [] w'_1)) ∧
 ∀ (w' : World),
 J [] w' →
 I_1 [Value.int IntKind.i64 (IntKind.i64.wrap (x_2 + 1))] w' ∧
 m_1 [Value.int IntKind.i64 (IntKind.i64.wrap (x_2 + 1))] w' <
 m_1 [Value.int IntKind.i64 x_2] w'_1)
 (CallsS Tryz.prog 94
 #[Value.pointer (some (Addr.mk b o none)),
 Value.slice (some (Addr.mk n_3 0 none)) (↑n : Int).toNat (↑n : Int).toNat]
 w'_1 fun (e : Ending) (w'_2 : World) =>
 e = Ending.returned (Value.tuple #[]) ∧
 I
 [Value.slice (some (Addr.mk n_3 0 none)) (↑n : Int).toNat (↑n : Int).toNat,
 Value.int IntKind.i64 (IntKind.i64.wrap (x + 1))]
 w'_2 ∧
 m
 [Value.slice (some (Addr.mk n_3 0 none)) (↑n : Int).toNat (↑n : Int).toNat,
 Value.int IntKind.i64 (IntKind.i64.wrap (x + 1))]
 w'_2 <
 m [Value.slice p n c, Value.int IntKind.i64 x] w'))
 (∃ (p_1 : Option Addr),
 ∃ (n_3 : Nat),
 ∃ (c : Nat),
 w'.cell? (Addr.mk b (o + 1) none) = some (Value.slice p_1 n_3 c) ∧
 nn true p fun (b o : Nat) =>
 (0 ≤ (↑n_3 : Int) ∧ (↑n_3 : Int) < (↑n : Int)) ∧
 ∃ (x : Bool),
 w'.cell? (Addr.mk b (o + (↑n_3 : Int).toNat) none) = some (Value.bool x) ∧
 R (Ending.returned (Value.bool x)) w')
theorem vc_match (b : Nat) (o : Nat) (s : ByteArray) (w : World) (R : Ending → World → Prop) (h : VC_match b o s w R) : Calls Tryz.prog 70 ([Value.pointer
    (some { block := b, off := o }),
  Value.string s] : List Value).toArray w R := by
  have e : execR { P := Tryz.prog, loops := [(7, [(5, Ck.slice), (28, Ck.int IntKind.i64)]), (11, [(40, Ck.int IntKind.i64)])], pur := pur1, tails := [], joins := [(17, [])], boxes := [] } Tryz.f70.results.toList R (Tryz.f70.body.getD .skip) (initF [Value.pointer
    (some { block := b, off := o }),
  Value.string
    s] (Tryz.f70.ntmps - ([Value.pointer (some { block := b, off := o }),
  Value.string s] : List Value).length)) w = VC_match b o s w R := by kernel_rfl
  have hb : Tryz.f70.body = some (Tryz.f70.body.getD .skip) := by kernel_rfl
  exact calls_of_exec' (P := Tryz.prog) (fn := Tryz.f70) (c := Tryz.f70.body.getD .skip) (args := [Value.pointer
    (some { block := b, off := o }),
  Value.string s]) (w := w) (R := R) pur1_ok Tryz.func70 hb e h

end Go.Proofs.YtmjanmffnblcoaaGreatDoor

/- The contracts of wildmat's spread and Match, by plain functions. The pattern lies in the memory; at most 2^20 elements. -/
namespace Go.Proofs.YtmjanmffnblcoaaGreatDoor
open Go.RowKit

/-! ### Rows of bools -/
def bools (f : Nat → Bool) (n : Nat) : Array Value := ((List.range n).map fun j => Value.bool (f j)).toArray
theorem bools_size (f : Nat → Bool) (n : Nat) : (bools f n).size = n := by simp [bools]
theorem bools_get (f : Nat → Bool) (n k : Nat) (h : k < n) : (bools f n)[k]? = some (.bool (f k)) := by
  simp [bools, h]
theorem bools_congr {f g : Nat → Bool} {n : Nat} (h : ∀ j, j < n → f j = g j) : bools f n = bools g n := by
  unfold bools
  congr 1
  exact List.map_congr_left fun j hj => by rw [h j (List.mem_range.1 hj)]
theorem bools_put {f g : Nat → Bool} {n k : Nat} {b : Bool} (h : ∀ j, j < n → g j = if j = k then b else f j) : (putL (bools f n).toList k [.bool b]).toArray = bools g n := by
  simp only [putL]
  apply Array.ext'
  apply List.ext_getElem?
  intro i
  simp only [bools, List.getElem?_set, List.getElem?_map]
  rcases Nat.lt_or_ge i n with hi | hi
  · by_cases e : k = i
    · subst e
      simp [hi, h k hi]
    · have : ¬ i = k := fun x => e x.symm
      simp [hi, e, h i hi, this]
  · simp [hi]; omega
theorem bools_made (n : Nat) : madeCells #[Value.bool false] (n * 1) = bools (fun _ => false) n := by
  apply Array.ext'
  rw [toList_madeCells_one]
  simp only [bools, Nat.mul_one]
  apply List.ext_getElem?
  intro i
  rcases Nat.lt_or_ge i n with hi | hi <;> simp [hi]

def elS (els : List El) (j : Nat) : Bool := match els[j]? with | some e => e.isStar | none => false
def elH (els : List El) (j : Nat) (c : Int) : Bool := match els[j]? with | some e => hasB e.chars c | none => false
/-- What is reached because a star stands for nothing. -/
def spF (st : Nat → Bool) (m : Nat → Bool) : Nat → Bool
  | 0 => m 0
  | i + 1 => m (i + 1) || (st i && spF st m i)

theorem spread_any {D : Nat → Prop} {w : World} {b : Nat} {s : ByteArray} {els : List El} {g : Nat} {f : Nat → Bool} (hp : PatR D w b s els) (hl : els.length ≤ 1048576) (hg : w.heap[g]? = some (.cells (bools f (els.length + 1)) 4 (0, 0))) (hD : ∀ k, D k → k ≠ g) (c : Nat) :
    Calls Tryz.prog 94 #[.pointer (some ⟨b, 0, none⟩), .slice (some ⟨g, 0, none⟩) (els.length + 1) c] w fun e w' =>
      e = .returned (.tuple #[]) ∧ w'.heap[g]? = some (.cells (bools (spF (elS els) f) (els.length + 1)) 4 (0, 0)) ∧ Kp (· = g) w w' := by
  refine vc_spread b 0 _ _ c w _ ?_
  unfold VC_spread
  obtain ⟨p, n, c', hb, hDb, ho, hDo⟩ := hp
  have hn := ho.1
  rw [List.length_map] at hn
  have hn : n = els.length := by omega
  subst hn
  refine ⟨p, els.length, c', by rw [Nat.zero_add]; exact cell_at hb rfl, ?_⟩
  refine count1 els.length (by omega) (fun k w' => w'.heap[g]? = some (.cells (bools (fun j => if j ≤ k then spF (elS els) f j else f j) (els.length + 1)) 4 (0, 0)) ∧ Kp (· = g) w w') ⟨?_, .refl _ _⟩ ?_
  · rw [hg]
    congr 2
    apply bools_congr
    intro j _
    by_cases h : j ≤ 0
    · obtain rfl : j = 0 := by omega
      rfl
    · rw [if_neg h]
  · intro I m k w' hk ⟨hg', hw⟩ next
    refine bsp_intro (fun hlt => ?_) (fun hge => ?_)
    · have hlt : k < els.length := by simpa using hlt
      have ho' : w'.ownsRow 0 165 1 (.slice p els.length c') els.length (els.map El.val) := owns_kp ho hw (fun k hk e => hD k (hDo k hk) e)
      obtain ⟨q, v, hp, hv, hc⟩ := own_cell ho' hlt
      subst hp
      obtain ⟨x, hx⟩ : ∃ x, els[k]? = some x := ⟨_, List.getElem?_eq_getElem hlt⟩
      rw [List.getElem?_map, hx] at hv
      simp only [Option.map_some, Option.some.injEq] at hv
      subst hv
      have e0 : (k : Int).toNat = k := by omega
      have e1 : (IntKind.i64.wrap ((k : Int) + 1)).toNat = k + 1 := by rw [wr64 (by omega) (by omega)]; omega
      have e2 : IntKind.i64.wrap ((k : Int) + 1) = ((k + 1 : Nat) : Int) := by rw [wr64 (by omega) (by omega)]; omega
      show (0 ≤ (k : Int) ∧ (k : Int) < (els.length : Int)) ∧ _
      refine ⟨⟨by omega, by omega⟩, x.val, by rw [e0]; exact hc, ?_⟩
      show (0 ≤ (k : Int) ∧ (k : Int) < ((els.length + 1 : Nat) : Int)) ∧ _
      refine ⟨⟨by omega, by omega⟩, _, by rw [e0, Nat.zero_add]; exact cell_at hg' (bools_get _ _ _ (by omega)), ?_⟩
      rw [if_pos (Nat.le_refl k)]
      have keep : ∀ w2, Kp (· = g) w w2 → w2.heap[g]? = some (.cells (bools (fun j => if j ≤ k then spF (elS els) f j else f j) (els.length + 1)) 4 (0, 0)) → (elS els k && spF (elS els) f k) = false → w2.heap[g]? = some (.cells (bools (fun j => if j ≤ k + 1 then spF (elS els) f j else f j) (els.length + 1)) 4 (0, 0)) ∧ Kp (· = g) w w2 := fun w2 h1 h2 h3 => by
        refine ⟨?_, h1⟩
        rw [h2]
        congr 2
        apply bools_congr
        intro j _
        by_cases hj : j ≤ k
        · rw [if_pos hj, if_pos (by omega)]
        · rw [if_neg hj]
          by_cases hj1 : j ≤ k + 1
          · obtain rfl : j = k + 1 := by omega
            rw [if_pos hj1]
            simp [spF, h3]
          · rw [if_neg hj1]
      refine bsp_intro (fun hm => ⟨(isStar_any x w').mono fun e w2 ⟨he, hk2⟩ => ⟨_, he, ?_⟩⟩) (fun hm => ?_)
      · have hg2 := hk2.blk hg' (fun h => h)
        have hw2 : Kp (· = g) w w2 := hw.trans (hk2.mono fun _ _ h => h.elim)
        have hst : elS els k = x.isStar := by simp [elS, hx]
        refine bsp_intro (fun h4 => ?_) (fun h4 => ?_)
        · have h4 : x.isStar = true := by simpa using h4
          show (0 ≤ IntKind.i64.wrap ((k : Int) + 1) ∧ IntKind.i64.wrap ((k : Int) + 1) < ((els.length + 1 : Nat) : Int)) ∧ _
          rw [e1, e2]
          refine ⟨⟨by omega, by omega⟩, by rw [Nat.zero_add]; exact cell_wr hg2 (by rw [bools_size]; omega), fun w3 hp3 => ?_⟩
          have hg3 := hp3.block hg2
          rw [Nat.zero_add] at hg3
          rw [← e2]
          refine next (by omega) w3 ⟨?_, hw2.trans hp3.kp⟩
          rw [hg3]
          congr 2
          apply bools_put
          intro j _
          by_cases hj : j = k + 1
          · subst hj
            simp [spF, hst, h4, hm]
          · rw [if_neg hj]
            by_cases hj1 : j ≤ k
            · rw [if_pos hj1, if_pos (by omega)]
            · rw [if_neg hj1, if_neg (by omega)]
        · have h4 : x.isStar = false := by simpa using h4
          exact next (by omega) w2 (keep w2 hw2 hg2 (by simp [hst, h4]))
      · exact next (by omega) w' (keep w' hw hg' (by rw [hm]; simp))
    · have hge : ¬ k < els.length := by simpa using hge
      obtain rfl : k = els.length := by omega
      refine ⟨rfl, ?_, hw⟩
      rw [hg']
      congr 2
      apply bools_congr
      intro j hj
      rw [if_pos (by omega)]

/-! ### Match -/
/-- What is reached behind a character. -/
def stpF (els : List El) (c : Int) (f : Nat → Bool) (j : Nat) : Bool :=
  (elS els j && f j && elH els j c) || (match j with | 0 => false | i + 1 => !elS els i && f i && elH els i c)
/-- What is reached behind k characters. -/
def runF (els : List El) (s : ByteArray) : Nat → Nat → Bool
  | 0 => spF (elS els) (fun j => j == 0)
  | k + 1 => spF (elS els) (stpF els (at8 s k) (runF els s k))
def matchB (els : List El) (s : ByteArray) : Bool := runF els s s.size els.length
/-- The marks of the next row behind k elements. -/
def nxF (els : List El) (c : Int) (f : Nat → Bool) (k j : Nat) : Bool :=
  (decide (j < k) && (elS els j && f j && elH els j c)) || (match j with | 0 => false | i + 1 => decide (i < k) && (!elS els i && f i && elH els i c))
theorem nxF_end (els : List El) (c : Int) (f : Nat → Bool) (j : Nat) (hj : j < els.length + 1) : nxF els c f els.length j = stpF els c f j := by
  unfold nxF stpF
  have h0 : ∀ j, ¬ j < els.length → elS els j = false := fun j h => by simp [elS, List.getElem?_eq_none (Nat.le_of_not_lt h)]
  cases j with
  | zero =>
    by_cases h : 0 < els.length
    · simp [h]
    · simp [h, h0 0 h]
  | succ i =>
    have hi : i < els.length := by omega
    by_cases h : i + 1 < els.length
    · simp [h, hi]
    · simp [h, hi, h0 _ h]
theorem nxF_succ (els : List El) (c : Int) (f : Nat → Bool) (i j : Nat) : nxF els c f (i + 1) j = if (elS els i = true ∧ j = i ∨ elS els i = false ∧ j = i + 1) ∧ (f i && elH els i c) = true then true else nxF els c f i j := by
  have d1 : ∀ a : Nat, decide (a < i + 1) = (decide (a < i) || decide (a = i)) := fun a => by rw [Bool.eq_iff_iff]; simp; omega
  unfold nxF
  by_cases e1 : j = i
  · subst e1
    have e3 : ¬ j = j + 1 := by omega
    simp only [d1, e3, Nat.lt_irrefl, and_false, or_false, and_true, decide_true, decide_false]
    cases j with
    | zero => cases elS els 0 <;> cases f 0 <;> cases elH els 0 c <;> simp
    | succ j =>
      have : ¬ j = j + 1 := by omega
      have h2 : decide (j < j + 1) = true := by simp
      simp only [h2, this, decide_false]
      cases elS els (j + 1) <;> cases f (j + 1) <;> cases elH els (j + 1) c <;> simp
  · by_cases e2 : j = i + 1
    · subst e2
      have e3 : ¬ i + 1 < i := by omega
      simp only [d1, e1, e3, Nat.lt_irrefl, and_false, false_or, and_true, decide_true, decide_false]
      cases elS els i <;> cases f i <;> cases elH els i c <;> simp
    · simp only [d1, e1, e2, and_false, or_false, false_and, if_false, decide_false]
      cases j with
      | zero => simp
      | succ j =>
        have : ¬ j = i := by omega
        simp [this]
theorem spF_congr {st m m' : Nat → Bool} : ∀ (j : Nat), (∀ i, i ≤ j → m i = m' i) → spF st m j = spF st m' j
  | 0, h => h 0 (Nat.le_refl _)
  | j + 1, h => by simp only [spF]; rw [h (j + 1) (Nat.le_refl _), spF_congr j (fun i hi => h i (by omega))]
theorem byte_cell {w : World} {g : Nat} {s : ByteArray} {c : Nat} {t : TypeId} {fz : Nat × Nat} (h : w.heap[g]? = some (.cells (bytesRow s c) t fz)) {k : Nat} (hk : k < s.size) : w.cell? ⟨g, 0 + k, none⟩ = some (.int .u8 (at8 s k)) := by
  rw [cell_block h, Nat.zero_add, bytesRow_at s c k hk, at8_lt s k hk]
  rfl

set_option maxHeartbeats 400000 in
theorem match_any {D : Nat → Prop} {w : World} {b : Nat} {t : ByteArray} {els : List El} (hp : PatR D w b t els) (hl : els.length ≤ 1048576) (s : ByteArray) (hs : s.size ≤ 9223372036854775807) :
    Calls Tryz.prog 70 #[.pointer (some ⟨b, 0, none⟩), .string s] w fun e w' => e = .returned (.bool (matchB els s)) ∧ K0 w w' := by
  refine vc_match b 0 s w _ ?_
  unfold VC_match
  have hp0 : PatR (fun k => k < w.heap.size) w b t els := hp.mono fun k _ h => h
  obtain ⟨p, n, c, hb, hDb, ho, hDo⟩ := hp
  have hn := ho.1
  rw [List.length_map] at hn
  have hn : n = els.length := by omega
  subst hn
  have e1 : IntKind.i64.wrap ((els.length : Int) + 1) = ((els.length + 1 : Nat) : Int) := by rw [wr64 (by omega) (by omega)]; omega
  refine ⟨p, els.length, c, by rw [Nat.zero_add]; exact cell_at hb rfl, ?_⟩
  rw [e1]
  have e2 : ((els.length + 1 : Nat) : Int).toNat = els.length + 1 := by omega
  rw [e2]
  refine ⟨⟨by omega, by omega, by omega, by omega⟩, fun n_1 w1 hn1 => ⟨⟨by omega, by omega⟩, ?_⟩⟩
  rw [bools_made] at hn1
  have hg1 := hn1.block
  refine ⟨cell_wr hg1 (by rw [bools_size]; omega), fun w2 hp2 => ?_⟩
  have hg2 := hp2.block hg1
  rw [bools_put (g := fun j => j == 0) (fun j _ => by by_cases h : j = 0 <;> simp [h])] at hg2
  have hnew : w.heap.size ≤ n_1 := hn1.ge
  have hw2 : K0 w w2 := (hn1.kp _).fresh hp2.kp (fun i hi e => by omega)
  have hp2' := hp0.kp hw2 (fun k hk _ h => h)
  refine ⟨(spread_any hp2' hl hg2 (fun k hk e => by omega) _).mono fun e w3 ⟨he, hg3, hk3⟩ => ⟨he, fun c1 n_2 w4 hc1 hn4 => ?_⟩⟩
  have hw3 : K0 w w3 := hw2.fresh hk3 (fun i hi e => by omega)
  have hw4 : K0 w w4 := hw3.trans ((hn4.kp _).of_drew)
  have hg4 := (hn4.kp (fun _ => False)).blk (blk_drew hg3) (fun h => h)
  have hb4 := hn4.block
  have hn2 : w.heap.size ≤ n_2 := Nat.le_trans hw3.size hn4.ge
  refine ⟨fun vs w' => ∃ (g k : Nat), vs = [.slice (some ⟨g, 0, none⟩) (els.length + 1) (els.length + 1), .int .i64 k] ∧ k ≤ s.size ∧ w.heap.size ≤ g ∧ g ≠ n_2 ∧ w'.heap[g]? = some (.cells (bools (runF els s k) (els.length + 1)) 4 (0, 0)) ∧
      w'.heap[n_2]? = some (.cells (bytesRow s c1) 5 ((bytesRow s c1).size, (bytesRow s c1).size + 1)) ∧ K0 w w', fun vs _ => (match vs with | [_, .int _ x] => s.size - x.toNat | _ => 0),
    ⟨n_1, 0, rfl, by omega, hnew, fun e => by have h9 := block_lt hg3; have h8 := hn4.ge; have : w3.drew.heap.size = w3.heap.size := rfl; omega, hg4, hb4, hw4⟩, fun q nn cc x w' ⟨g, k, hv, hk, hg, hgn, hgw, hbw, hw'⟩ => ?_⟩
  simp only [List.cons.injEq, Value.int.injEq, true_and, Value.slice.injEq, and_true] at hv
  obtain ⟨⟨rfl, rfl, rfl⟩, rfl⟩ := hv
  have hpw := hp0.kp hw' (fun k hk _ h => h)
  have e0 : (k : Int).toNat = k := by omega
  have hpw' := hpw
  obtain ⟨p', n', c', hb', hDb', ho', hDo'⟩ := hpw'
  have hn' := ho'.1
  rw [List.length_map] at hn'
  have hn' : n' = els.length := by omega
  subst hn'
  refine bsp_intro (fun hlt => ⟨⟨by omega, by simpa using hlt⟩, ?_⟩) (fun hge => ?_)
  · have hlt : k < s.size := by simpa using hlt
    refine ⟨at8 s k, by rw [e0]; exact byte_cell hbw hlt, ⟨by omega, by omega, by omega, by omega⟩, fun n_3 w5 hn5 => ?_⟩
    rw [e2] at hn5 ⊢
    rw [bools_made] at hn5
    have hn3 : w.heap.size ≤ n_3 := Nat.le_trans hw'.size hn5.ge
    have hg3n : g < n_3 := Nat.lt_of_lt_of_le (block_lt hgw) hn5.ge
    have hn23 : n_2 < n_3 := Nat.lt_of_lt_of_le (block_lt hbw) hn5.ge
    have hw5 : K0 w w5 := hw'.trans (hn5.kp _)
    have hK5 := hn5.kp (fun _ => False)
    refine ⟨p', els.length, c', by rw [Nat.zero_add]; exact cell_at (hK5.blk hb' (fun h => h)) rfl, ?_⟩
    refine count1 els.length (by omega) (fun i w6 => w6.heap[n_3]? = some (.cells (bools (nxF els (at8 s k) (runF els s k) i) (els.length + 1)) 4 (0, 0)) ∧ Kp (· = n_3) w5 w6) ⟨?_, .refl _ _⟩ ?_
    · rw [hn5.block]
      congr 2
      apply bools_congr
      intro j _
      cases j <;> simp [nxF]
    · intro I m i w6 hi ⟨h6, hk6⟩ next
      have hw6 : K0 w w6 := hw5.fresh hk6 (fun i hi e => by omega)
      have ho6 : w6.ownsRow 0 165 1 (.slice p' els.length c') els.length (els.map El.val) := owns_kp (owns_kp ho' hK5 (fun _ _ h => h)) hk6 (fun k hk e => by have := hDo' k hk; omega)
      have hg6 := hk6.blk (hK5.blk hgw (fun h => h)) (fun e => by omega)
      have hb6 := hk6.blk (hK5.blk hbw (fun h => h)) (fun e => by omega)
      refine bsp_intro (fun hlt6 => ?_) (fun hge6 => ?_)
      · have hlt6 : i < els.length := by simpa using hlt6
        have f0 : (i : Int).toNat = i := by omega
        have f1 : IntKind.i64.wrap ((i : Int) + 1) = ((i + 1 : Nat) : Int) := by rw [wr64 (by omega) (by omega)]; omega
        have f2 : ((i + 1 : Nat) : Int).toNat = i + 1 := by omega
        refine ⟨fun _ w7 => w7.heap[n_3]? = some (.cells (bools (nxF els (at8 s k) (runF els s k) (i + 1)) (els.length + 1)) 4 (0, 0)) ∧ Kp (· = n_3) w5 w7, ?_, fun w7 h7 => next hlt6 w7 h7⟩
        obtain ⟨q6, v, hpq, hv, hc6⟩ := own_cell ho6 hlt6
        subst hpq
        obtain ⟨x, hx⟩ : ∃ x, els[i]? = some x := ⟨_, List.getElem?_eq_getElem hlt6⟩
        rw [List.getElem?_map, hx] at hv
        simp only [Option.map_some, Option.some.injEq] at hv
        subst hv
        have hst : elS els i = x.isStar := by simp [elS, hx]
        have hha : elH els i (at8 s k) = hasB x.chars (at8 s k) := by simp [elH, hx]
        have step : ∀ j, nxF els (at8 s k) (runF els s k) (i + 1) j = if (elS els i = true ∧ j = i ∨ elS els i = false ∧ j = i + 1) ∧ (runF els s k i && elH els i (at8 s k)) = true then true else nxF els (at8 s k) (runF els s k) i j := by
          exact fun j => nxF_succ _ _ _ _ _
        have keep : ∀ w7, Kp (· = n_3) w5 w7 → w7.heap[n_3]? = some (.cells (bools (nxF els (at8 s k) (runF els s k) i) (els.length + 1)) 4 (0, 0)) → (runF els s k i && elH els i (at8 s k)) = false →
            w7.heap[n_3]? = some (.cells (bools (nxF els (at8 s k) (runF els s k) (i + 1)) (els.length + 1)) 4 (0, 0)) ∧ Kp (· = n_3) w5 w7 := fun w7 h1 h2 h3 => by
          refine ⟨?_, h1⟩
          rw [h2]
          congr 2
          apply bools_congr
          intro j _
          rw [step j, if_neg (fun h => by rw [h3] at h; exact absurd h.2 (by decide))]
        show (0 ≤ (i : Int) ∧ (i : Int) < (els.length : Int)) ∧ _
        refine ⟨⟨by omega, by omega⟩, x.val, by rw [f0]; exact hc6, ?_⟩
        show (0 ≤ (i : Int) ∧ (i : Int) < ((els.length + 1 : Nat) : Int)) ∧ _
        refine ⟨⟨by omega, by omega⟩, _, by rw [f0, Nat.zero_add]; exact cell_at hg6 (bools_get _ _ _ (by omega)), ?_⟩
        rw [Bool.not_not]
        refine bsp_intro (fun hr => ⟨(stands_any x (at8 s k) w6).mono fun e w7 ⟨he, hk7⟩ => ⟨_, he, ?_⟩⟩) (fun hr => keep w6 hk6 h6 (by rw [hr]; rfl))
        have h7 := hk7.blk h6 (fun h => h)
        have hk7' : Kp (· = n_3) w5 w7 := hk6.trans (hk7.mono fun _ _ h => h.elim)
        refine bsp_intro (fun hh => keep w7 hk7' h7 (by rw [hr, hha]; simpa using hh)) (fun hh => ⟨(isStar_any x w7).mono fun e w8 ⟨he, hk8⟩ => ⟨_, he, ?_⟩⟩)
        have hh : hasB x.chars (at8 s k) = true := by simpa using hh
        have h8 := hk8.blk h7 (fun h => h)
        have hk8' : Kp (· = n_3) w5 w8 := hk7'.trans (hk8.mono fun _ _ h => h.elim)
        refine bsp_intro (fun hs8 => ⟨⟨by omega, by omega⟩, by rw [f0, Nat.zero_add]; exact cell_wr h8 (by rw [bools_size]; omega), fun w9 hp9 => ⟨?_, hk8'.trans hp9.kp⟩⟩)
          (fun hs8 => ⟨by rw [f1]; exact ⟨by omega, by omega⟩, by rw [f1, f2, Nat.zero_add]; exact cell_wr h8 (by rw [bools_size]; omega), fun w9 hp9 => ⟨?_, hk8'.trans hp9.kp⟩⟩)
        · have := hp9.block h8
          rw [f0, Nat.zero_add] at this
          rw [this]
          congr 2
          apply bools_put
          intro j _
          rw [step j]
          by_cases hj : j = i
          · rw [if_pos ⟨.inl ⟨by rw [hst]; exact hs8, hj⟩, by rw [hr, hha, hh]; rfl⟩, if_pos hj]
          · rw [if_neg (fun h => ?_), if_neg hj]
            rcases h.1 with h | h
            · exact hj h.2
            · rw [hst, hs8] at h; exact absurd h.1 (by decide)
        · have := hp9.block h8
          rw [f1, f2, Nat.zero_add] at this
          rw [this]
          congr 2
          apply bools_put
          intro j _
          rw [step j]
          by_cases hj : j = i + 1
          · rw [if_pos ⟨.inr ⟨by rw [hst]; exact hs8, hj⟩, by rw [hr, hha, hh]; rfl⟩, if_pos hj]
          · rw [if_neg (fun h => ?_), if_neg hj]
            rcases h.1 with h | h
            · rw [hst, hs8] at h; exact absurd h.1 (by decide)
            · exact hj h.2
      · have hge6 : ¬ i < els.length := by simpa using hge6
        obtain rfl : i = els.length := by omega
        have hp6 := hp0.kp hw6 (fun k hk _ h => h)
        refine ⟨(spread_any hp6 hl h6 (fun k hk e => by omega) _).mono fun e w7 ⟨he, hg7, hk7⟩ => ⟨he, ?_⟩⟩
        have hw7 : K0 w w7 := hw6.fresh hk7 (fun i hi e => by omega)
        have f1 : IntKind.i64.wrap ((k : Int) + 1) = ((k + 1 : Nat) : Int) := by rw [wr64 (by omega) (by omega)]; omega
        rw [f1]
        refine ⟨⟨n_3, k + 1, rfl, by omega, hn3, by omega, ?_, hk7.blk hb6 (fun e => by omega), hw7⟩, by simp; omega⟩
        rw [hg7]
        congr 2
        apply bools_congr
        intro j hj
        exact spF_congr j fun i hi => nxF_end els _ _ i (by omega)
  · have hge : ¬ k < s.size := by simpa using hge
    obtain rfl : k = s.size := by omega
    refine ⟨p', els.length, c', by rw [Nat.zero_add]; exact cell_at hb' rfl, ?_⟩
    show (0 ≤ (els.length : Int) ∧ (els.length : Int) < ((els.length + 1 : Nat) : Int)) ∧ _
    have f0 : (els.length : Int).toNat = els.length := by omega
    refine ⟨⟨by omega, by omega⟩, _, by rw [f0, Nat.zero_add]; exact cell_at hgw (bools_get _ _ _ (by omega)), rfl, hw'⟩

end Go.Proofs.YtmjanmffnblcoaaGreatDoor

/- Chapter 42 (expiry), plain: rules, days, the plan, and that the reference's plan is the same. No program, no condition. -/
namespace Go.Proofs.YtmjanmffnblcoaaGreatDoor
open Go.Sort

/-- A rule. -/
structure Rl where
  pat : ByteArray
  lo : Int
  hi : Int
/-- An article. -/
structure Ar where
  id : List Int
  date : Int
  ar : Int
  gs : List ByteArray
  by_ : Int
  ct : Int
  holds : List (List Int)
  wd : Bool
def rl1 (r : Rl) : Int := match compileR r.pat with
  | .inr _ => 3
  | .inl _ => if r.lo < 0 ∨ r.hi < r.lo ∨ 36500 < r.hi then 2 else 0
def rlF : List Rl → Int
  | [] => 0
  | r :: l => if rl1 r ≠ 0 then rl1 r else rlF l
def chkR (l : List Rl) : Int := if 64 < l.length then 9 else rlF l
def elsOf (r : Rl) : List El := match compileR r.pat with | .inl e => e | .inr _ => []
def hitR (r : Rl) (g : ByteArray) : Bool := matchB (elsOf r) g
def ofR (l : List Rl) (g : ByteArray) : Int × Int := l.foldl (fun x r => if hitR r g = true then (r.lo, r.hi) else x) (0, 36500)
theorem ofR_snoc (l : List Rl) (r : Rl) (g : ByteArray) : ofR (l ++ [r]) g = if hitR r g = true then (r.lo, r.hi) else ofR l g := by
  unfold ofR; rw [List.foldl_append]; rfl
def daysF (l : List Rl) : List ByteArray → Int × Int → Int × Int
  | [], x => x
  | g :: gs, x => daysF l gs (max x.1 (ofR l g).1, max x.2 (ofR l g).2)
def daysR (l : List Rl) (gs : List ByteArray) : Int × Int := if gs = [] then (0, 36500) else daysF l gs (0, 0)
theorem rlF_all : ∀ {l : List Rl}, rlF l = 0 → ∀ r ∈ l, 0 ≤ r.lo ∧ r.lo ≤ r.hi ∧ r.hi ≤ 36500
  | [], _, r, hr => by cases hr
  | x :: l, h, r, hr => by
    unfold rlF at h
    split at h
    · rename_i h1; exact absurd h h1
    · rename_i h1
      have h1 : rl1 x = 0 := by omega
      rcases List.mem_cons.1 hr with e | e
      · subst e
        unfold rl1 at h1
        split at h1
        · cases h1
        · split at h1
          · cases h1
          · omega
      · exact rlF_all h r e
theorem ofR_bd : ∀ {l : List Rl}, (∀ r ∈ l, 0 ≤ r.lo ∧ r.lo ≤ r.hi ∧ r.hi ≤ 36500) → ∀ g, 0 ≤ (ofR l g).1 ∧ (ofR l g).1 ≤ (ofR l g).2 ∧ (ofR l g).2 ≤ 36500 := by
  intro l h g
  unfold ofR
  have key : ∀ (l : List Rl) (x : Int × Int), (∀ r ∈ l, 0 ≤ r.lo ∧ r.lo ≤ r.hi ∧ r.hi ≤ 36500) → (0 ≤ x.1 ∧ x.1 ≤ x.2 ∧ x.2 ≤ 36500) → 0 ≤ (l.foldl (fun x r => if hitR r g = true then (r.lo, r.hi) else x) x).1 ∧ (l.foldl (fun x r => if hitR r g = true then (r.lo, r.hi) else x) x).1 ≤ (l.foldl (fun x r => if hitR r g = true then (r.lo, r.hi) else x) x).2 ∧ (l.foldl (fun x r => if hitR r g = true then (r.lo, r.hi) else x) x).2 ≤ 36500 := by
    intro l
    induction l with
    | nil => intro x _ hx; exact hx
    | cons r l ih =>
      intro x hl hx
      rw [List.foldl_cons]
      refine ih _ (fun y hy => hl y (List.mem_cons_of_mem _ hy)) ?_
      split
      · exact hl r List.mem_cons_self
      · exact hx
  exact key l (0, 36500) h (by decide)
theorem daysF_bd {l : List Rl} (h : ∀ r ∈ l, 0 ≤ r.lo ∧ r.lo ≤ r.hi ∧ r.hi ≤ 36500) : ∀ (gs : List ByteArray) (x : Int × Int), 0 ≤ x.1 ∧ x.1 ≤ x.2 ∧ x.2 ≤ 36500 → 0 ≤ (daysF l gs x).1 ∧ (daysF l gs x).1 ≤ (daysF l gs x).2 ∧ (daysF l gs x).2 ≤ 36500
  | [], x, hx => hx
  | g :: gs, x, hx => by
    have := ofR_bd h g
    exact daysF_bd h gs _ ⟨by simp only; omega, by simp only; omega, by simp only; omega⟩
theorem daysR_bd {l : List Rl} (h : ∀ r ∈ l, 0 ≤ r.lo ∧ r.lo ≤ r.hi ∧ r.hi ≤ 36500) (gs : List ByteArray) : 0 ≤ (daysR l gs).1 ∧ (daysR l gs).1 ≤ (daysR l gs).2 ∧ (daysR l gs).2 ≤ 36500 := by
  unfold daysR
  split
  · decide
  · exact daysF_bd h gs _ (by decide)

/-! ### The plan -/
def permK (k : Int) : Bool := k == 3 || k == 4 || k == 5
def fixB (now : Int) (a : Ar) : Bool := permK a.ct || ((a.ct != 0 || !a.holds.isEmpty) && decide (now ≤ a.date + 20160))
def overB (l : List Rl) (now : Int) (a : Ar) : Bool := decide (a.ar + (daysR l a.gs).2 * 1440 ≤ now)
def mayB (l : List Rl) (now : Int) (a : Ar) : Bool := decide (a.ar + (daysR l a.gs).1 * 1440 ≤ now)
def hereB (here : List Ar) (h : List Int) : Bool := here.any fun b => decide (b.id = h)
def protB (now : Int) (here : List Ar) (a : Ar) : Bool := fixB now a || a.holds.any (hereB here)
def totS (here : List Ar) : Int := (here.map (·.by_)).sum
def reasB (l : List Rl) (now budget tot : Int) (k : Nat) (a : Ar) : Bool := match k with
  | 1 => a.wd && a.ct == 0
  | 2 => overB l now a
  | _ => decide (budget < tot) && mayB l now a
def goB (l : List Rl) (now budget : Int) (here : List Ar) (k : Nat) (a : Ar) : Bool := reasB l now budget (totS here) k a && !protB now here a
/-- What goes next, and why. -/
def pickS (l : List Rl) (now budget : Int) (here : List Ar) : Option (Ar × Nat) := match here.find? (goB l now budget here 1) with
  | some a => some (a, 1)
  | none => match here.find? (goB l now budget here 2) with
    | some a => some (a, 2)
    | none => match here.find? (goB l now budget here 3) with
      | some a => some (a, 3)
      | none => none
def without (here : List Ar) (i : List Int) : List Ar := here.filter fun b => !decide (b.id = i)
def planS (l : List Rl) (now budget : Int) : Nat → List Ar → List (List Int × Nat) × List Ar
  | 0, here => ([], here)
  | n + 1, here => match pickS l now budget here with
    | none => ([], here)
    | some (a, k) => ((a.id, k) :: (planS l now budget n (without here a.id)).1, (planS l now budget n (without here a.id)).2)
def idU (i : List Int) : List UInt8 := i.map fun x => x.toNat.toUInt8
def keyA (a : Ar) : Key := (a.ar, idU a.id)
/-- Identities are bytes. -/
def idOK (i : List Int) : Prop := i.length = 32 ∧ ∀ x ∈ i, 0 ≤ x ∧ x ≤ 255
theorem idU_inj {i j : List Int} (hi : ∀ x ∈ i, 0 ≤ x ∧ x ≤ 255) (hj : ∀ x ∈ j, 0 ≤ x ∧ x ≤ 255) (h : idU i = idU j) : i = j := by
  have key : ∀ l : List Int, (∀ x ∈ l, 0 ≤ x ∧ x ≤ 255) → (idU l).map (fun b => (b.toNat : Int)) = l := fun l hl => by
    unfold idU
    rw [List.map_map]
    conv => rhs; rw [← List.map_id l]
    refine List.map_congr_left fun x hx => ?_
    have := hl x hx
    have e : x.toNat < 256 := by omega
    simp [Nat.toUInt8, Nat.mod_eq_of_lt e]
    omega
  rw [← key i hi, ← key j hj, h]
abbrev srtA (l : List Ar) : Prop := (l.map keyA).Pairwise fun x y => ¬ cfK y x < 0
/-- One is the oldest. -/
theorem first_min {P : Ar → Bool} : ∀ {hs : List Ar} {a : Ar}, srtA hs → hs.find? P = some a → a ∈ hs ∧ P a = true ∧ ∀ b ∈ hs, P b = true → ¬ cfK (keyA b) (keyA a) < 0
  | [], a, _, h => by simp at h
  | x :: hs, a, hsrt, h => by
    have hsrt' : srtA hs := (List.pairwise_cons.1 hsrt).2
    have hx := (List.pairwise_cons.1 hsrt).1
    rw [List.find?_cons] at h
    split at h
    · rename_i hp
      simp at h; subst h
      refine ⟨List.mem_cons_self, hp, fun b hb _ => ?_⟩
      rcases List.mem_cons.1 hb with e | e
      · subst e; have := cfK_ord.self (keyA b); omega
      · exact hx _ (List.mem_map.2 ⟨b, e, rfl⟩)
    · rename_i hp
      obtain ⟨h1, h2, h3⟩ := first_min hsrt' h
      refine ⟨List.mem_cons_of_mem _ h1, h2, fun b hb hpb => ?_⟩
      rcases List.mem_cons.1 hb with e | e
      · subst e; rw [hpb] at hp; cases hp
      · exact h3 b e hpb
/-- The reference's choice: the oldest one. -/
def bestF (P : Ar → Bool) : List Ar → Option Ar → Option Ar
  | [], b => b
  | a :: r, none => bestF P r (if P a = true then some a else none)
  | a :: r, some b => bestF P r (if P a = true ∧ cfK (keyA a) (keyA b) < 0 then some a else some b)
theorem best_min {P : Ar → Bool} : ∀ (h : List Ar) (b : Option Ar), (∀ x, b = some x → P x = true) →
    match bestF P h b with
    | none => b = none ∧ ∀ x ∈ h, P x = false
    | some a => (a ∈ h ∨ b = some a) ∧ P a = true ∧ (∀ x ∈ h, P x = true → ¬ cfK (keyA x) (keyA a) < 0) ∧ ∀ x, b = some x → ¬ cfK (keyA x) (keyA a) < 0
  | [], none, _ => ⟨rfl, fun x hx => by cases hx⟩
  | [], some b, hb => ⟨.inr rfl, hb b rfl, (fun x hx => by cases hx), fun x hx => by cases hx; have := cfK_ord.self (keyA b); omega⟩
  | a :: r, none, _ => by
    simp only [bestF]
    have hpre : ∀ x, (if P a = true then some a else none) = some x → P x = true := fun x hx => by
      split at hx
      · cases hx; assumption
      · cases hx
    have ih := best_min r (if P a = true then some a else none) hpre
    split at ih
    · rename_i he
      refine ⟨trivial, fun x hx => ?_⟩
      rcases List.mem_cons.1 hx with e | e
      · subst e
        have := ih.1
        split at this
        · cases this
        · rename_i hp; simpa using hp
      · exact ih.2 x e
    · rename_i m he
      obtain ⟨h1, h2, h3, h4⟩ := ih
      refine ⟨.inl ?_, h2, fun x hx hp => ?_, fun x hx => by cases hx⟩
      · rcases h1 with h1 | h1
        · exact List.mem_cons_of_mem _ h1
        · split at h1
          · simp at h1; subst h1; exact List.mem_cons_self
          · cases h1
      · rcases List.mem_cons.1 hx with e | e
        · subst e
          exact h4 x (by rw [if_pos hp])
        · exact h3 x e hp
  | a :: r, some b, hb => by
    simp only [bestF]
    have hpb := hb b rfl
    have hpre : ∀ x, (if P a = true ∧ cfK (keyA a) (keyA b) < 0 then some a else some b) = some x → P x = true := fun x hx => by
      split at hx
      · rename_i h; cases hx; exact h.1
      · cases hx; exact hpb
    have ih := best_min r (if P a = true ∧ cfK (keyA a) (keyA b) < 0 then some a else some b) hpre
    split at ih
    · rename_i he
      have := ih.1
      split at this <;> cases this
    · rename_i m he
      obtain ⟨h1, h2, h3, h4⟩ := ih
      have hord := cfK_ord
      by_cases hc : P a = true ∧ cfK (keyA a) (keyA b) < 0
      · have h4a := h4 a (by rw [if_pos hc])
        rw [if_pos hc] at h1
        refine ⟨.inl ?_, h2, fun x hx hp => ?_, fun x hx => ?_⟩
        · rcases h1 with h1 | h1
          · exact List.mem_cons_of_mem _ h1
          · simp at h1; subst h1; exact List.mem_cons_self
        · rcases List.mem_cons.1 hx with e | e
          · subst e; exact h4a
          · exact h3 x e hp
        · cases hx
          intro hlt
          exact h4a (hord.tlt _ _ _ hc.2 hlt)
      · have h4b := h4 b (by rw [if_neg hc])
        rw [if_neg hc] at h1
        refine ⟨?_, h2, fun x hx hp => ?_, fun x hx => by cases hx; exact h4b⟩
        · rcases h1 with h1 | h1
          · exact .inl (List.mem_cons_of_mem _ h1)
          · exact .inr h1
        · rcases List.mem_cons.1 hx with e | e
          · subst e
            intro hlt
            have hn : ¬ cfK (keyA x) (keyA b) < 0 := fun h => hc ⟨hp, h⟩
            -- b ≤ x < m, so b < m
            have a1 := hord.anti (keyA x) (keyA b)
            rcases Int.lt_or_eq_of_le (show cfK (keyA b) (keyA x) ≤ 0 by have := hord.anti (keyA b) (keyA x); omega) with q | q
            · exact h4b (hord.tlt _ _ _ q hlt)
            · exact h4b (hord.el _ _ _ q hlt)
          · exact h3 x e hp

theorem nodup_inj {α β : Type} {f : α → β} : ∀ {l : List α}, (l.map f).Nodup → ∀ {a b : α}, a ∈ l → b ∈ l → f a = f b → a = b
  | [], _, a, b, ha, _, _ => by cases ha
  | x :: l, h, a, b, ha, hb, e => by
    rw [List.map_cons, List.nodup_cons] at h
    rcases List.mem_cons.1 ha with h1 | h1 <;> rcases List.mem_cons.1 hb with h2 | h2
    · rw [h1, h2]
    · subst h1; exact absurd (List.mem_map.2 ⟨b, h2, e.symm⟩) h.1
    · subst h2; exact absurd (List.mem_map.2 ⟨a, h1, e⟩) h.1
    · exact nodup_inj h.2 h1 h2 e
/-- Articles that can be told apart. -/
structure ArsOK (h : List Ar) : Prop where
  nd : (h.map (·.id)).Nodup
  ok : ∀ a ∈ h, ∀ x ∈ a.id, 0 ≤ x ∧ x ≤ 255
theorem ArsOK.perm {h h' : List Ar} (k : ArsOK h) (hp : h.Perm h') : ArsOK h' := ⟨(hp.map _).nodup_iff.1 k.nd, fun a ha => k.ok a (hp.mem_iff.2 ha)⟩
theorem ArsOK.sub {h h' : List Ar} (k : ArsOK h) (hs : h'.Sublist h) : ArsOK h' := ⟨k.nd.sublist (hs.map _), fun a ha => k.ok a (hs.subset ha)⟩
theorem ArsOK.inj {h : List Ar} (k : ArsOK h) {a b : Ar} (ha : a ∈ h) (hb : b ∈ h) (e : keyA a = keyA b) : a = b :=
  nodup_inj k.nd ha hb (idU_inj (k.ok a ha) (k.ok b hb) (congrArg (·.2) e))
theorem best_first {P : Ar → Bool} {h hs : List Ar} (hp : hs.Perm h) (hsrt : srtA hs) (hok : ArsOK h) : bestF P h none = hs.find? P := by
  have hb := best_min (P := P) h none (fun x hx => by cases hx)
  split at hb
  · rename_i he
    rw [he]
    refine (List.find?_eq_none.2 fun x hx => ?_).symm
    have := hb.2 x (hp.mem_iff.1 hx)
    simp [this]
  · rename_i a he
    obtain ⟨h1, h2, h3, _⟩ := hb
    have ha : a ∈ h := h1.resolve_right (fun e => by cases e)
    cases hf : hs.find? P with
    | none =>
      have := List.find?_eq_none.1 hf a (hp.mem_iff.2 ha)
      rw [h2] at this; simp at this
    | some b =>
      obtain ⟨b1, b2, b3⟩ := first_min hsrt hf
      have hbh := hp.mem_iff.1 b1
      have c1 := h3 b hbh b2
      have c2 := b3 a (hp.mem_iff.2 ha) h2
      have := cfK_ord.anti (keyA a) (keyA b)
      rw [he, hok.inj ha hbh (cfK_zero (by omega))]
theorem tot_perm {l l' : List Ar} (h : l.Perm l') : totS l = totS l' := by
  unfold totS
  induction h with
  | nil => rfl
  | cons x _ ih => simp only [List.map_cons, List.sum_cons, ih]
  | swap x y l => simp only [List.map_cons, List.sum_cons]; omega
  | trans _ _ i1 i2 => exact i1.trans i2
theorem here_perm {l l' : List Ar} (h : l.Perm l') (i : List Int) : hereB l i = hereB l' i := by
  unfold hereB
  rw [Bool.eq_iff_iff, List.any_eq_true, List.any_eq_true]
  constructor
  · rintro ⟨x, hx, e⟩; exact ⟨x, h.mem_iff.1 hx, e⟩
  · rintro ⟨x, hx, e⟩; exact ⟨x, h.mem_iff.2 hx, e⟩
theorem go_perm {l : List Rl} {now budget : Int} {h h' : List Ar} (hp : h.Perm h') (k : Nat) : goB l now budget h k = goB l now budget h' k := by
  funext a
  unfold goB protB
  rw [tot_perm hp, show hereB h = hereB h' from funext (here_perm hp)]
def pickR (l : List Rl) (now budget : Int) (here : List Ar) : Option (Ar × Nat) := match bestF (goB l now budget here 1) here none with
  | some a => some (a, 1)
  | none => match bestF (goB l now budget here 2) here none with
    | some a => some (a, 2)
    | none => match bestF (goB l now budget here 3) here none with
      | some a => some (a, 3)
      | none => none
theorem pick_eq {l : List Rl} {now budget : Int} {h hs : List Ar} (hp : hs.Perm h) (hsrt : srtA hs) (hok : ArsOK h) : pickR l now budget h = pickS l now budget hs := by
  unfold pickR pickS
  rw [best_first hp hsrt hok, best_first hp hsrt hok, best_first hp hsrt hok, go_perm hp.symm 1, go_perm hp.symm 2, go_perm hp.symm 3]
theorem pick_mem {l : List Rl} {now budget : Int} {hs : List Ar} {a : Ar} {k : Nat} (h : pickS l now budget hs = some (a, k)) : a ∈ hs ∧ goB l now budget hs k a = true ∧ (k = 1 ∨ k = 2 ∨ k = 3) := by
  unfold pickS at h
  split at h
  · rename_i b hb; cases h; exact ⟨List.mem_of_find?_eq_some hb, List.find?_some hb, .inl rfl⟩
  · split at h
    · rename_i b hb; cases h; exact ⟨List.mem_of_find?_eq_some hb, List.find?_some hb, .inr (.inl rfl)⟩
    · split at h
      · rename_i b hb; cases h; exact ⟨List.mem_of_find?_eq_some hb, List.find?_some hb, .inr (.inr rfl)⟩
      · cases h
theorem pick_none {l : List Rl} {now budget : Int} {hs : List Ar} (h : pickS l now budget hs = none) {k : Nat} (hk : k = 1 ∨ k = 2 ∨ k = 3) {a : Ar} (ha : a ∈ hs) : goB l now budget hs k a = false := by
  unfold pickS at h
  split at h
  · cases h
  · rename_i h1
    split at h
    · cases h
    · rename_i h2
      split at h
      · cases h
      · rename_i h3
        rcases hk with rfl | rfl | rfl
        · simpa using List.find?_eq_none.1 h1 a ha
        · simpa using List.find?_eq_none.1 h2 a ha
        · simpa using List.find?_eq_none.1 h3 a ha
def refP (l : List Rl) (now budget : Int) : Nat → List Ar → List (List Int × Nat) × List Ar
  | 0, here => ([], here)
  | n + 1, here => match pickR l now budget here with
    | none => ([], here)
    | some (a, k) => ((a.id, k) :: (refP l now budget n (without here a.id)).1, (refP l now budget n (without here a.id)).2)
theorem without_sub (h : List Ar) (i : List Int) : (without h i).Sublist h := List.filter_sublist
theorem srt_sub {h h' : List Ar} (hs : srtA h) (k : h'.Sublist h) : srtA h' := List.Pairwise.sublist (k.map _) hs
/-- The reference's plan is the plan. -/
theorem ref_plan {l : List Rl} {now budget : Int} : ∀ (n : Nat) (h hs : List Ar), hs.Perm h → srtA hs → ArsOK h → (refP l now budget n h).1 = (planS l now budget n hs).1 ∧ (planS l now budget n hs).2.Perm (refP l now budget n h).2
  | 0, h, hs, hp, _, _ => ⟨rfl, hp⟩
  | n + 1, h, hs, hp, hsrt, hok => by
    simp only [refP, planS, pick_eq hp hsrt hok]
    cases hk : pickS l now budget hs with
    | none => exact ⟨rfl, hp⟩
    | some ak =>
      obtain ⟨a, k⟩ := ak
      obtain ⟨h1, h2⟩ := ref_plan (l := l) (now := now) (budget := budget) n (without h a.id) (without hs a.id) (hp.filter _) (srt_sub hsrt (without_sub _ _)) (hok.sub (without_sub _ _))
      exact ⟨by simp only [h1], h2⟩
theorem without_len {h : List Ar} (hok : ArsOK h) {a : Ar} (ha : a ∈ h) : (without h a.id).length + 1 = h.length := by
  induction h with
  | nil => cases ha
  | cons x r ih =>
    have hnd := hok.nd
    rw [List.map_cons, List.nodup_cons] at hnd
    unfold without at ih ⊢
    rw [List.filter_cons]
    by_cases e : x.id = a.id
    · have hall : r.filter (fun b => !decide (b.id = a.id)) = r := List.filter_eq_self.2 fun b hb => by
        have : ¬ b.id = a.id := fun h => hnd.1 (List.mem_map.2 ⟨b, hb, h.trans e.symm⟩)
        simp [this]
      rw [if_neg (by simp [e]), hall]; simp
    · have ha' : a ∈ r := by
        rcases List.mem_cons.1 ha with h | h
        · subst h; exact absurd rfl e
        · exact h
      rw [if_pos (by simp [e]), List.length_cons, List.length_cons, ih (hok.sub (List.sublist_cons_self x r)) ha']
/-- The plan and what stays. -/
theorem plan_stays {l : List Rl} {now budget : Int} : ∀ (n : Nat) (hs : List Ar), ArsOK hs → (planS l now budget n hs).2 = hs.filter (fun a => !decide (a.id ∈ (planS l now budget n hs).1.map (·.1))) ∧ (planS l now budget n hs).1.length + (planS l now budget n hs).2.length = hs.length
  | 0, hs, _ => ⟨(List.filter_eq_self.2 (fun _ _ => by simp [planS])).symm, by simp [planS]⟩
  | n + 1, hs, hok => by
    cases hk : pickS l now budget hs with
    | none =>
      have e : planS l now budget (n + 1) hs = ([], hs) := by simp only [planS, hk]
      rw [e]
      exact ⟨(List.filter_eq_self.2 (fun _ _ => by simp)).symm, by simp⟩
    | some ak =>
      obtain ⟨a, k⟩ := ak
      obtain ⟨h1, h2⟩ := plan_stays (l := l) (now := now) (budget := budget) n (without hs a.id) (hok.sub (without_sub _ _))
      have ha := (pick_mem hk).1
      have hl := without_len hok ha
      have e : planS l now budget (n + 1) hs = ((a.id, k) :: (planS l now budget n (without hs a.id)).1, (planS l now budget n (without hs a.id)).2) := by simp only [planS, hk]
      rw [e]
      refine ⟨?_, by simp only [List.length_cons]; omega⟩
      simp only
      rw [h1]
      unfold without
      rw [List.filter_filter]
      refine List.filter_congr fun x _ => ?_
      simp only [List.map_cons, List.mem_cons]
      by_cases e : x.id = a.id
      · simp [e]
      · simp [e]
theorem plan_end {l : List Rl} {now budget : Int} : ∀ (n : Nat) (hs : List Ar), ArsOK hs → hs.length ≤ n → pickS l now budget (planS l now budget n hs).2 = none
  | 0, hs, _, hl => by
    have : hs = [] := List.eq_nil_of_length_eq_zero (by omega)
    subst this
    rfl
  | n + 1, hs, hok, hl => by
    simp only [planS]
    cases hk : pickS l now budget hs with
    | none => exact hk
    | some ak =>
      obtain ⟨a, k⟩ := ak
      have := without_len hok (pick_mem hk).1
      exact plan_end n (without hs a.id) (hok.sub (without_sub _ _)) (by omega)
theorem here_sub {h h' : List Ar} (hs : ∀ a ∈ h', a ∈ h) {i : List Int} (hn : hereB h i = false) : hereB h' i = false := by
  unfold hereB at hn ⊢
  rw [List.any_eq_false] at hn ⊢
  exact fun x hx => hn x (hs x hx)
/-- What goes may go. -/
theorem plan_safe {l : List Rl} {now budget : Int} (hl : ∀ r ∈ l, 0 ≤ r.lo ∧ r.lo ≤ r.hi ∧ r.hi ≤ 36500) : ∀ (n : Nat) (hs : List Ar), ArsOK hs → ∀ a ∈ hs, a.id ∈ (planS l now budget n hs).1.map (·.1) →
    permK a.ct = false ∧ (a.wd = true ∨ mayB l now a = true) ∧ ∀ h ∈ a.holds, hereB (planS l now budget n hs).2 h = false
  | 0, hs, _, a, _, h => by simp [planS] at h
  | n + 1, hs, hok, a, ha, h => by
    simp only [planS] at h ⊢
    cases hk : pickS l now budget hs with
    | none => rw [hk] at h; simp at h
    | some bk =>
      obtain ⟨b, k⟩ := bk
      rw [hk] at h
      simp only [List.map_cons, List.mem_cons] at h
      have hsub := (plan_stays (l := l) (now := now) (budget := budget) n (without hs b.id) (hok.sub (without_sub _ _))).1
      by_cases e : a.id = b.id
      · obtain ⟨hb, hgo, hk3⟩ := pick_mem hk
        have : a = b := nodup_inj hok.nd ha hb e
        subst this
        unfold goB protB at hgo
        simp only [Bool.and_eq_true, Bool.not_eq_true', Bool.or_eq_false_iff] at hgo
        obtain ⟨h1, h2, h3⟩ := hgo
        refine ⟨?_, ?_, fun i hi => ?_⟩
        · unfold fixB at h2
          simp only [Bool.or_eq_false_iff] at h2
          exact h2.1
        · have hd := daysR_bd hl a.gs
          rcases hk3 with rfl | rfl | rfl
          · unfold reasB at h1; simp at h1; exact .inl h1.1
          · unfold reasB overB at h1; simp at h1; refine .inr ?_; unfold mayB; simp; omega
          · unfold reasB at h1; simp at h1; exact .inr h1.2
        · have hno := List.any_eq_false.1 h3 i hi
          refine here_sub (fun x hx => ?_) (by simpa using hno)
          simp only at hx
          rw [hsub] at hx
          exact (List.mem_filter.1 (List.mem_filter.1 hx).1).1
      · have ha' : a ∈ without hs b.id := List.mem_filter.2 ⟨ha, by simp [e]⟩
        have h : a.id ∈ (planS l now budget n (without hs b.id)).1.map (·.1) := h.resolve_left e
        exact plan_safe hl n (without hs b.id) (hok.sub (without_sub _ _)) a ha' h

end Go.Proofs.YtmjanmffnblcoaaGreatDoor
