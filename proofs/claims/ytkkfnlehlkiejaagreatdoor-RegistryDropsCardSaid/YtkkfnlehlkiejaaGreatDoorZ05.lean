/- The contracts of wildmat's ParseList, Len, Verdict and Selects, by plain functions. Texts have at most 2^30 bytes; the library's variable MaxLen holds a number. -/
import Derived.Test.YtkkfnlehlkiejaaGreatDoorZ04
import Derived.Test.YtkkfnlehlkiejaaGreatDoorRows
import Derived.Test.YtkkfnlehlkiejaaGreatDoorCards
import Derived.Test.YtkkfnlehlkiejaaGreatDoorTie
import Derived.Test.YtkkfnlehlkiejaaGreatDoorZ03
import Derived.WalkKit
import Derived.ProofKit
import Derived.OpenShut
import Derived.Shelf.Vars
import Derived.Deep.Slices
import Derived.Deep.DeepHandedRow
import Derived.Lib.LaidTab
import Derived.SizedLaws
namespace Go.Proofs.YtkkfnlehlkiejaaGreatDoor
open Go.RowKit

/-- The library's variable MaxLen holds a number. -/
def GW (w : World) : Prop := ∃ m, w.cell? ⟨0, 0, none⟩ = some (.int .i64 m)
theorem GW.kp {M : Nat → Prop} {w w' : World} (h : GW w) (hk : Kp M w w') (hm : ¬ M 0) : GW w' := by
  obtain ⟨m, h⟩ := h; exact ⟨m, hk.cell' h hm⟩

/-- An entry of a list. -/
structure Ent where
  t : ByteArray
  els : List El
  v : Int
def entC : List Nat → List Ent → List Value
  | b :: bs, e :: es => .pointer (some ⟨b, 0, none⟩) :: .int .i64 e.v :: entC bs es
  | _, _ => []
theorem entC_length : ∀ (bs : List Nat) (es : List Ent), bs.length = es.length → (entC bs es).length = es.length * 2
  | [], [], _ => rfl
  | b :: bs, e :: es, h => by simp only [entC, List.length_cons, entC_length bs es (by simpa using h)]; omega
  | [], _ :: _, h => by simp at h
  | _ :: _, [], h => by simp at h
theorem entC_append : ∀ (bs : List Nat) (es : List Ent) (b : Nat) (e : Ent), bs.length = es.length → entC (bs ++ [b]) (es ++ [e]) = entC bs es ++ [.pointer (some ⟨b, 0, none⟩), .int .i64 e.v]
  | [], [], _, _, _ => rfl
  | b :: bs, e :: es, b', e', h => by simp only [List.cons_append, entC, entC_append bs es b' e' (by simpa using h)]
  | [], _ :: _, _, _, h => by simp at h
  | _ :: _, [], _, _, h => by simp at h
theorem entC_get : ∀ (bs : List Nat) (es : List Ent) (k : Nat) (b : Nat) (e : Ent), bs[k]? = some b → es[k]? = some e → (entC bs es)[k * 2]? = some (.pointer (some ⟨b, 0, none⟩)) ∧ (entC bs es)[k * 2 + 1]? = some (.int .i64 e.v)
  | [], _, k, b, e, h, _ => by simp at h
  | _ :: _, [], k, b, e, _, h => by simp at h
  | b :: bs, e :: es, 0, b', e', h, h' => by simp at h h'; subst h; subst h'; exact ⟨rfl, rfl⟩
  | b :: bs, e :: es, k + 1, b', e', h, h' => by
    have := entC_get bs es k b' e' (by simpa using h) (by simpa using h')
    rw [show (k + 1) * 2 = k * 2 + 1 + 1 by omega]
    simpa [entC] using this
/-- A list of patterns in the memory. -/
def ListR (D : Nat → Prop) (w : World) (b : Nat) (s : ByteArray) (es : List Ent) : Prop :=
  ∃ (p : Option Addr) (n c : Nat) (bs : List Nat), w.heap[b]? = some (.cells #[.string s, .slice p n c] 116 (0, 0)) ∧ D b ∧ w.ownsRow 0 120 2 (.slice p n c) n (entC bs es) ∧ (∀ k, (Value.slice p n c).ownBlock = some k → D k) ∧
    bs.length = es.length ∧ ∀ (k b' : Nat) (e : Ent), bs[k]? = some b' → es[k]? = some e → PatR D w b' e.t e.els
theorem ListR.kp {D M : Nat → Prop} {w w' : World} {b : Nat} {s : ByteArray} {es : List Ent} (h : ListR D w b s es) (hk : Kp M w w') (hm : ∀ k, D k → k < w.heap.size → ¬ M k) : ListR D w' b s es := by
  obtain ⟨p, n, c, bs, h1, h2, h3, h4, h5, h6⟩ := h
  exact ⟨p, n, c, bs, hk.blk h1 (hm b h2 (block_lt h1)), h2, owns_kp h3 hk (fun k hk => hm k (h4 k hk) (own_lt h3 hk)), h4, h5, fun k b' e hb he => (h6 k b' e hb he).kp hk hm⟩
theorem ListR.mono {D D' : Nat → Prop} {w : World} {b : Nat} {s : ByteArray} {es : List Ent} (h : ListR D w b s es) (hd : ∀ k, D k → k < w.heap.size → D' k) : ListR D' w b s es := by
  obtain ⟨p, n, c, bs, h1, h2, h3, h4, h5, h6⟩ := h
  exact ⟨p, n, c, bs, h1, hd b h2 (block_lt h1), h3, fun k hk => hd k (h4 k hk) (own_lt h3 hk), h5, fun k b' e hb he => (h6 k b' e hb he).mono hd⟩

/-- The parts of a text between commas. -/
def partsS (s : ByteArray) : List ByteArray := Lib.splitB ⟨#[44]⟩ 0 (Lib.countB s ⟨#[44]⟩) s
def markI (x : ByteArray) : Int := if Lib.hasPrefix x.data.toList [33] = true then 2 else if Lib.hasPrefix x.data.toList [64] = true then 3 else 1
def bareS (x : ByteArray) : ByteArray := if markI x = 1 then x else x.extract 1 x.size
/-- The entries of a list, or the offset and the kind of the error. -/
def entsS : List ByteArray → Int → List Ent → List Ent ⊕ (Int × Int)
  | [], _, acc => .inl acc
  | x :: r, at_, acc => if acc.length = 64 then .inr (at_, 9) else
    match compileR (bareS x) with
    | .inr (o, e) => .inr (at_ + x.size - (bareS x).size + o, e)
    | .inl els => entsS r (at_ + x.size + 1) (acc ++ [⟨bareS x, els, markI x⟩])
def listR (s : ByteArray) : List Ent ⊕ (Int × Int) := if s.size = 0 then .inr (0, 4) else entsS (partsS s) 0 []

theorem splitB_le (sep : ByteArray) : ∀ (k : Nat) (s x : ByteArray), x ∈ Lib.splitB sep 0 k s → x.size ≤ s.size
  | 0, s, x, h => by simp [Lib.splitB] at h; subst h; exact Nat.le_refl _
  | k + 1, s, x, h => by
    unfold Lib.splitB at h
    split at h
    · simp at h; subst h; exact Nat.le_refl _
    · rcases List.mem_cons.1 h with rfl | h
      · rw [ByteArray.size_extract]; omega
      · have := splitB_le sep k _ x h
        rw [ByteArray.size_extract] at this
        omega
/-- A list that is being made. -/
def LstSt (w : World) (nb : Nat) (s : ByteArray) (es : List Ent) : Prop :=
  ∃ (p : Option Addr) (n c : Nat) (bs : List Nat), w.heap[nb]? = some (.cells #[.string s, .slice p n c] 116 (0, 0)) ∧ w.ownsRow (nb + 1) 120 2 (.slice p n c) n (entC bs es) ∧
    bs.length = es.length ∧ ∀ (k b' : Nat) (e : Ent), bs[k]? = some b' → es[k]? = some e → PatR (fun k => nb < k) w b' e.t e.els
theorem bareS_le (x : ByteArray) : (bareS x).size ≤ x.size := by
  unfold bareS
  split
  · exact Nat.le_refl _
  · rw [ByteArray.size_extract]; omega
theorem hasPrefix1 {x : ByteArray} {c : UInt8} (h : Lib.hasPrefix x.data.toList [c] = true) : 1 ≤ x.size := by
  have h1 : (x.data.toList).length = x.size := x.data.length_toList
  cases hx : x.data.toList with
  | nil => rw [hx] at h; simp [Lib.hasPrefix] at h
  | cons a r => rw [hx] at h1; simp at h1; omega

set_option maxHeartbeats 1000000 in
theorem parseList_any (s : ByteArray) (w : World) (hs : s.size ≤ 1073741824) (hG : GW w) : Calls Tryz.prog 35 #[.string s] w fun e w' => K0 w w' ∧
    match listR s with
    | .inl es => ∃ b, e = .returned (.tuple #[.pointer (some ⟨b, 0, none⟩), .int .i64 0, .int .i64 0]) ∧ ListR (fun k => w.heap.size ≤ k) w' b s es
    | .inr (o, x) => e = .returned (.tuple #[.pointer none, .int .i64 o, .int .i64 x]) := by
  refine vc_parseList s w _ ?_
  unfold VC_parseList
  rw [toList_nil]
  refine bsp_intro (fun h0 => ?_) (fun h0 => fun nb w1 hn => ?_)
  · have h0 : s.size = 0 := by simpa using h0
    refine ⟨.refl _ _, ?_⟩
    simp only [listR, h0, if_true]
  have h0 : ¬ s.size = 0 := by simpa using h0
  have hR : listR s = entsS (partsS s) 0 [] := by simp only [listR, h0, if_false]
  rw [hR]
  obtain ⟨mm, hG1⟩ := hG.kp (hn.kp (fun _ => False)) (fun h => h)
  refine ⟨(Tryz.strings_Split s ⟨#[44]⟩ mm w1 (by omega) hG1 (by decide)).mono fun e w2 ⟨he, hw2⟩ => ?_⟩
  have hlen : (partsS s).length = Lib.countB s ⟨#[44]⟩ + 1 := Lib.splitB_all ⟨#[44]⟩ (by decide) 0 _ s rfl
  have hle : ∀ x ∈ partsS s, x.size ≤ s.size := fun x hx => splitB_le _ _ _ _ hx
  have hn2 : NewB w1 (.cells ((partsS s).map .string).toArray 9) w1.heap.size w2 := ⟨rfl, hw2⟩
  rw [← hlen] at he
  generalize partsS s = ps at *
  clear hw2 hlen
  generalize w1.heap.size = np at he hn2
  refine ⟨_, _, _, he, ?_⟩
  clear he
  have hnb : nb = w.heap.size := hn.hn
  have hw2 : K0 w w2 := (hn.kp _).trans (hn2.kp _)
  have hnp : nb < np := Nat.lt_of_lt_of_le (block_lt hn.block) hn2.ge
  refine ⟨fun vs w' => ∃ (k : Nat) (at_ : Int) (es : List Ent), vs = [.int .i64 at_, .int .i64 k] ∧ k ≤ ps.length ∧ k ≤ 64 ∧ es.length = k ∧ 0 ≤ at_ ∧ at_ ≤ k * 2147483648 ∧ entsS (ps.drop k) at_ es = entsS ps 0 [] ∧
      w'.heap[np]? = some (.cells (ps.map .string).toArray 9 (0, 0)) ∧ LstSt w' nb s es ∧ K0 w w', fun vs _ => (match vs with | [_, .int _ x] => ps.length - x.toNat | _ => 0),
    ⟨0, 0, [], rfl, by omega, by omega, rfl, by omega, by omega, rfl, hn2.block, ⟨none, 0, 0, [], (hn2.kp (fun _ => False)).blk hn.block (fun h => h), World.ownsRow_nil _ _ _ _, rfl, fun k b' e h _ => by simp at h⟩, hw2⟩,
    fun a0 x_1 wA ⟨k, at_, es, hv, hk, hk64, hes, hat0, hat1, hS, hpA, hstA, hwA⟩ => ?_⟩
  simp only [List.cons.injEq, Value.int.injEq, true_and, and_true] at hv
  obtain ⟨rfl, rfl⟩ := hv
  refine bsp_intro (fun hlt => ?_) (fun hge => ?_)
  · have hlt : k < ps.length := by simpa using hlt
    obtain ⟨y, hy⟩ : ∃ y, ps[k]? = some y := ⟨_, List.getElem?_eq_getElem hlt⟩
    have hdr : ps.drop k = y :: ps.drop (k + 1) := by
      rw [List.drop_eq_getElem_cons hlt]
      congr 1
      rw [List.getElem?_eq_getElem hlt] at hy
      simpa using hy
    have hysz : y.size ≤ 1073741824 := by have := hle y (List.mem_of_getElem? hy); omega
    have hbsz := bareS_le y
    rw [hdr] at hS
    have e0 : (k : Int).toNat = k := by omega
    show (0 ≤ (k : Int) ∧ (k : Int) < (ps.length : Int)) ∧ _
    refine ⟨⟨by omega, by omega⟩, y, by rw [e0, Nat.zero_add]; exact cell_at hpA (by simp [hy]), ?_⟩
    obtain ⟨p, n, c, bs, hb, ho, hbl, hpat⟩ := hstA
    have hn' := ho.1
    rw [entC_length bs es hbl] at hn'
    have hn' : n = k := by omega
    subst hn'
    refine ⟨p, n, c, cell_at hb rfl, ?_⟩
    refine bsp_intro (fun h64 => ⟨hwA, ?_⟩) (fun h64 => fun n_3 w3 hn3 => ?_)
    · have h64 : n = 64 := by simp at h64; omega
      rw [← hS]
      simp [entsS, hes, h64]
    have h64 : ¬ n = 64 := by simp at h64; omega
    have h3n : wA.heap.size ≤ n_3 := hn3.ge
    refine ⟨WrL_block hn3.block (by simp), fun w4 hp4 => ?_⟩
    have hb4 : w4.heap[n_3]? = some (.cells #[.pointer none, .int .i64 1] 120 (0, 0)) := hp4.block hn3.block
    have hk4 : K0 wA w4 := (hn3.kp _).fresh hp4.kp (fun i hi e => by omega)
    refine ⟨fun vs w5 => vs = [.string (bareS y)] ∧ w5.heap[n_3]? = some (.cells #[.pointer none, .int .i64 (markI y)] 120 (0, 0)) ∧ K0 wA w5, ?_, fun x_3 w5 ⟨hx3, hb5, hk5⟩ => ?_⟩
    · refine bsp_intro (fun h1 => ?_) (fun h1 => bsp_intro (fun h2 => ?_) (fun h2 => ?_))
      · have hm : markI y = 2 := by unfold markI; rw [if_pos h1]
        have hb' : bareS y = y.extract 1 y.size := by unfold bareS; rw [hm, if_neg (by decide)]
        refine ⟨fun _ => True, trivial, ⟨by decide, by have := hasPrefix1 h1; omega⟩, cell_wr (blk_drew hb4) (by simp), fun w5 hp5 => ⟨by rw [hb'], ?_, hk4.drew.fresh hp5.kp (fun i hi e => by omega)⟩⟩
        rw [hm]; exact hp5.block (blk_drew hb4)
      · have hm : markI y = 3 := by unfold markI; rw [if_neg (by rw [h1]; decide), if_pos h2]
        have hb' : bareS y = y.extract 1 y.size := by unfold bareS; rw [hm, if_neg (by decide)]
        refine ⟨fun _ => True, trivial, ⟨by decide, by have := hasPrefix1 h2; omega⟩, cell_wr (blk_drew hb4) (by simp), fun w5 hp5 => ⟨by rw [hb'], ?_, hk4.drew.fresh hp5.kp (fun i hi e => by omega)⟩⟩
        rw [hm]; exact hp5.block (blk_drew hb4)
      · have hm : markI y = 1 := by unfold markI; rw [if_neg (by rw [h1]; decide), if_neg (by rw [h2]; decide)]
        have hb' : bareS y = y := by unfold bareS; rw [if_pos hm]
        exact ⟨by rw [hb'], by rw [hm]; exact hb4, hk4⟩
    simp only [List.cons.injEq, Value.string.injEq, and_true] at hx3
    subst hx3
    have hSy : entsS (y :: ps.drop (n + 1)) a0 es = match compileR (bareS y) with
        | .inr (o, e) => .inr (a0 + y.size - (bareS y).size + o, e)
        | .inl els => entsS (ps.drop (n + 1)) (a0 + y.size + 1) (es ++ [⟨bareS y, els, markI y⟩]) := by
      simp [entsS, hes, h64]
    rw [hSy] at hS
    refine ⟨(compile_any (bareS y) w5).mono fun e w6 ⟨hk6, hce⟩ => ?_⟩
    have hk6' : K0 wA w6 := hk5.trans hk6
    have hb6 := hk6.blk hb5 (fun h => h)
    cases hc : compileR (bareS y) with
    | inr oe =>
      obtain ⟨o, er⟩ := oe
      rw [hc] at hce hS
      obtain ⟨ho80, her⟩ := compileR_off _ _ _ hc
      refine ⟨none, o, er, hce, ?_⟩
      refine bsp_intro (fun _ => ⟨hwA.trans hk6', ?_⟩) (fun h => absurd h (by simpa using her))
      rw [← hS]
      simp only
      rw [wr64 (x := a0 + (y.size : Int)) (by omega) (by omega), wr64 (x := a0 + (y.size : Int) - ((bareS y).size : Int)) (by omega) (by omega), wr64 (by omega) (by omega)]
    | inl els =>
      rw [hc] at hce hS
      simp only at hce hS
      obtain ⟨b', he', hpatb⟩ := hce
      refine ⟨some ⟨b', 0, none⟩, 0, 0, he', ?_⟩
      refine bsp_intro (fun h => absurd h (by decide)) (fun _ => ⟨cell_wr hb6 (by simp), fun w7 hp7 => ?_⟩)
      have hb7 : w7.heap[n_3]? = some (.cells #[.pointer (some ⟨b', 0, none⟩), .int .i64 (markI y)] 120 (0, 0)) := hp7.block hb6
      have hk7 : K0 wA w7 := hk6'.fresh hp7.kp (fun i hi e => by omega)
      have hn35 : n_3 < w5.heap.size := block_lt hb5
      have hpat7 : PatR (fun k => w5.heap.size ≤ k) w7 b' (bareS y) els := hpatb.kp hp7.kp (fun k hk _ e => by omega)
      have hbA : w7.drew.heap[nb]? = some (.cells #[.string s, .slice p n c] 116 (0, 0)) := blk_drew (hk7.blk hb (fun h => h))
      have hoA : w7.drew.ownsRow (nb + 1) 120 2 (.slice p n c) n (entC bs es) := owns_kp ho hk7.drew (fun _ _ h => h)
      refine ⟨fun w' => w'.heap[nb]? = some (.cells #[.string s, .slice p n c] 116 (0, 0)) ∧ w'.heap[n_3]? = some (.cells #[.pointer (some ⟨b', 0, none⟩), .int .i64 (markI y)] 120 (0, 0)), ⟨hbA, blk_drew hb7⟩,
        p, n, c, fun w' h => cell_at h.1 rfl, some ⟨b', 0, none⟩, markI y, fun w' h => AtL_block h.2 rfl, fun n_5 w8 hn8 => ⟨⟨(hn8.kp (fun _ => False)).blk hbA (fun h => h), (hn8.kp (fun _ => False)).blk (blk_drew hb7) (fun h => h)⟩, ?_⟩⟩
      refine app1 hoA (block_lt hbA) hn8 rfl (fun u hu => by simp at hu; rcases hu with rfl | rfl <;> rfl) (by omega) (by omega) (fun p' c' w9 ho9 hk9 _ => ?_)
      have hne : ∀ k, (Value.slice p n c).ownBlock = some k → nb < k := fun k hk => own_ge hoA hk
      have hltA : ∀ k, (Value.slice p n c).ownBlock = some k → k < wA.heap.size := fun k hk => own_lt ho hk
      have hb9 := hk9.blk hbA (fun e => by have := hne _ e; omega)
      refine ⟨cell_wr hb9 (by simp), fun wB hpB => ?_⟩
      have hkB : Kp (fun k => (Value.slice p n c).ownBlock = some k ∨ k = nb) w7.drew wB := (hk9.mono fun _ _ h => .inl h).trans (hpB.kp.mono fun _ _ h => .inr h)
      have hwB : K0 w wB := (hwA.trans hk7.drew).fresh hkB (fun i hi h => by rcases h with h | h; have := hne i h; omega; omega)
      rw [wr64 (x := (y.size : Int) + 1) (by omega) (by omega), wr64 (x := a0 + ((y.size : Int) + 1)) (by omega) (by omega), wr64 (x := (n : Int) + 1) (by omega) (by omega)]
      refine ⟨⟨n + 1, a0 + (y.size + 1), es ++ [⟨bareS y, els, markI y⟩], by simp, by omega, by omega, by simp [hes], by omega, by omega, ?_, ?_, ?_, hwB⟩, by simp; omega⟩
      · rw [← hS, ← Int.add_assoc]
      · refine hkB.blk (blk_drew (hk7.blk hpA (fun h => h))) (fun h => ?_)
        rcases h with h | h
        · obtain ⟨cc, hcc⟩ := own_type hoA h
          rw [blk_drew (hk7.blk hpA (fun h => h))] at hcc
          simp at hcc
        · omega
      · have hTy : ∀ k c' t' f', ((Value.slice p n c).ownBlock = some k ∨ k = nb) → w7.drew.heap[k]? = some (.cells c' t' f') → t' ≠ 149 ∧ t' ≠ 167 := fun k c' t' f' hk hh => by
          rcases hk with hk | rfl
          · obtain ⟨cc, hcc⟩ := own_type hoA hk
            rw [hcc] at hh
            simp only [Option.some.injEq, Obj.cells.injEq] at hh
            rw [← hh.2.1]; decide
          · rw [hbA] at hh
            simp only [Option.some.injEq, Obj.cells.injEq] at hh
            rw [← hh.2.1]; decide
        refine ⟨p', n + 1, c', bs ++ [b'], hpB.block hb9, ?_, by simp [hbl], fun k b2 e2 h1 h2 => ?_⟩
        · rw [entC_append bs es b' _ hbl]
          exact owns_kp ho9 hpB.kp (fun k hk e => by have := own_ge ho9 hk; omega)
        · rcases Nat.lt_or_ge k es.length with hlt' | hge'
          · rw [List.getElem?_append_left (by omega)] at h1
            rw [List.getElem?_append_left (by omega)] at h2
            exact ((hpat k b2 e2 h1 h2).kp hk7.drew (fun _ _ _ h => h)).kpT hkB hTy
          · have hkk : k = es.length := by
              rcases Nat.lt_or_ge k (es.length + 1) with h' | h'
              · omega
              · rw [List.getElem?_eq_none (by simp; omega)] at h2; cases h2
            subst hkk
            rw [List.getElem?_append_right (by omega)] at h1 h2
            rw [hbl] at h1
            simp at h1 h2
            subst h1 h2
            have : PatR (fun k => w5.heap.size ≤ k) w7.drew b' (bareS y) els := hpat7
            have hnw5 : nb < w5.heap.size := Nat.lt_of_lt_of_le (block_lt hb) hk5.size
            exact (this.kpT hkB hTy).mono fun k hk _ => by omega
  · have hge : ¬ k < ps.length := by simpa using hge
    obtain rfl : k = ps.length := by omega
    refine ⟨hwA, ?_⟩
    rw [← hS, List.drop_length]
    obtain ⟨p, n, c, bs, hb, ho, hbl, hpat⟩ := hstA
    exact ⟨nb, rfl, p, n, c, bs, hb, by omega, ⟨ho.1, ho.2.imp id fun ⟨g, cap, cur, a1, a2, a3⟩ => ⟨g, cap, cur, a1, by omega, a3⟩⟩, fun k hk => (by have := own_ge ho hk; omega), hbl, fun k b' e h1 h2 => (hpat k b' e h1 h2).mono fun k hk _ => by omega⟩

end Go.Proofs.YtkkfnlehlkiejaaGreatDoor

/- From contracts on worlds to the given statements: the last step of a law, the listed variables' world. No condition. -/
namespace Go.Proofs.YtkkfnlehlkiejaaGreatDoor
open Go.ChangeShapes Go.WideShapes Go.ChangeAt Go.RowKit Go.Deep

theorem own : ownKnob Tryz.prog.godebug = none := by kernel_rfl
/-- The library's variable holds a number. -/
theorem gw_of {w : World} (h : w.ShapedOpen Tryz.prog) : GW w := cell_of_shapedOpen_int (zero := #[.int .i64 0]) (t := 3) h (of_decide_eq_true (by kernel_rfl)) (by kernel_rfl) rfl (by kernel_rfl) (by kernel_rfl) Tryz.underlying3
theorem trodAll_kept {H : Type} {enc : TypeId × Value → H} {P : Program} {w w' : World} (hk : K0 w w') {base : Nat} {sp : Nat → Bool} : ∀ (ts : List TypeId) (vs : List Value) (ds : List (DataW H)) (ps : List MemPlace),
    (∀ t ∈ ts, posT P 12 t = true) → DataW.TrodAll enc P w base (fun _ => true) true ts vs ds ps → (∀ p ∈ ps, sp p.block = true) → DataW.TrodAll enc P w' base sp true ts vs ds ps
  | [], [], [], ps, _, h, _ => h
  | t :: ts, v :: vs, d :: ds, ps, ht, ⟨p, q, ⟨fuel, h1⟩, h2, h3⟩, hsp => by
    subst h3
    exact ⟨p, q, ⟨fuel, trod_kept hk fuel t 12 _ _ (ht t (by simp)) h1 (fun x hx => hsp x (by simp [hx]))⟩, trodAll_kept hk ts vs ds q (fun u hu => ht u (by simp [hu])) h2 (fun x hx => hsp x (by simp [hx])), rfl⟩
  | [], [], _ :: _, _, _, h, _ => h.elim
  | [], _ :: _, _, _, _, h, _ => h.elim
  | _ :: _, [], _, _, _, h, _ => h.elim
  | _ :: _, _ :: _, [], _, _, h, _ => h.elim
section
variable {H : Type} {enc : TypeId × Value → H} {P : Program}
theorem post_of_k0 {f : Func} {s : ChangeSpec} {apart fresh handsOn again : Bool} {W W' : World} {args : Array Value} {ds gs : List (DataW H)} {before : List MemPlace} (hpos : f.params.toList.all (posT P 12) = true) {tb : TypeId} (htb : P.underlying tb = some .bool) (hrt : f.resultTypes = #[tb])
    (hW : DataW.Whole enc P f.params.toList s.vars apart W args.toList ds gs before) (hvars : s.vars = [])
    (hfn : (s.fn H (ds ++ gs)).results = [.lit (.bool true)] ∧ (s.fn H (ds ++ gs)).args = ds ∧ (s.fn H (ds ++ gs)).vars = []) (hk : K0 W W') :
    s.post enc P f apart fresh handsOn again W args (.bool true) W' := by
  have hb : Below W.heap.size W W' := hk.below
  have hW0 := hW
  obtain ⟨p, q, hA, hV, hps, hz, hn⟩ := hW
  rw [hvars] at hV
  have hq : gs = [] ∧ q = [] := by
    cases gs with
    | nil => exact ⟨rfl, hV⟩
    | cons g r => exact hV.elim
  obtain ⟨rfl, rfl⟩ := hq
  rw [List.append_nil] at hps
  subst hps
  have hlt : ∀ x ∈ before, x.block < W.heap.size := fun x hx => hW0.lt x hx
  have hold : ∀ x ∈ before, (fun b => decide (b < W.heap.size)) x.block = true := fun x hx => by simpa using hlt x hx
  have hargs : ∀ sp : Nat → Bool, (∀ x ∈ before, sp x.block = true) → DataW.TrodAll enc P W' 0 sp true f.params.toList args.toList (s.fn H (ds ++ [])).args before := fun sp hsp => by
    rw [hfn.2.1]; exact trodAll_kept hk _ _ _ _ (fun t ht => List.all_eq_true.1 hpos t ht) hA hsp
  have hvs : ∀ sp : Nat → Bool, DataW.TrodVars enc P W' sp s.vars (s.fn H (ds ++ [])).vars [] := fun sp => by rw [hvars, hfn.2.2]; exact rfl
  have hres : ∀ (b : Nat) (sp : Nat → Bool) (hd : Bool), DataW.TrodAll enc P W' b sp hd f.resultTypes.toList ((Value.bool true).resultList f.resultTypes.size) (s.fn H (ds ++ [])).results [] := fun b sp hd => by
    rw [hfn.1, hrt]; exact trodAll_cons_mk (shut_bool htb _) trodAll_mk0
  refine ⟨ds, [], before, [], before, [], hW0, hres _ _ _, hargs _ hold, hvs _, World.keptBut_mono (fun x hx => ⟨hx, Or.inr (by simpa using hx)⟩) (hb.frame (· ∈ before)), fun _ => ?_⟩
  refine ⟨?_, _, _, ([] ++ before) ++ [], ⟨[] ++ before, [], trodAll_append (hargs _ (fun _ _ => rfl)) (hres _ _ _), hvs _, rfl, ?_, ?_⟩, ?_⟩
  · intro j t r hj hr
    rw [hrt] at hj hr
    have : j = 0 := by
      rcases Nat.eq_zero_or_pos j with h | h
      · exact h
      · simp [Array.getElem?_eq_none (xs := #[tb]) (i := j) (by simp; omega)] at hj
    subst this
    simp at hj
    subst hj
    have : r = .bool true := by simpa [Value.resultList] using hr.symm
    subst this
    exact okWide_bool_mk htb _
  · intro b off hp
    have hin : MemPlace.cell b off ∈ before := by simpa using hp
    rw [hb.frozen (hlt _ hin)]
    exact hz b off hin
  · intro ha
    have := hn ha
    simpa using this
  · intro x hx _
    simpa using hx
end

/-! ### A world that holds the listed tables -/
def flatD {H : Type} : Nat → DataW H → List Value
  | 0, _ => []
  | _ + 1, .lit (.int k n) => [.int k n]
  | n + 1, .agg l => l.flatMap (flatD n)
  | _ + 1, _ => []
def setRow (cs : List Value) : Obj → Obj
  | .cells _ t frozen => .cells cs.toArray t frozen
  | o => o
noncomputable def laidWorld (os : Os) : World :=
  { World.holding Tryz.prog os ⟨#[], #[], []⟩ with heap := ((World.holding Tryz.prog os ⟨#[], #[], []⟩).heap.modify 1 (setRow (flatD 3 Rows.laid_unicode_utf8_first))).modify 2 (setRow (flatD 3 (Rows.laid_unicode_utf8_acceptRanges (H := Unit)))) }

end Go.Proofs.YtkkfnlehlkiejaaGreatDoor

/- The symbolic evaluator, sixth part: blocks of the function's own are kept in mind, so that a formula does not speak of them. Generic: no program, no condition. -/
namespace Go.Proofs.YtkkfnlehlkiejaaGreatDoor
open Go.RowKit

/-- A block of the function's own: its number, its type, its cells; since the world that is spoken of: 0 as it was, 1 written, 2 new. -/
structure Blk where
  n : Nat
  t : TypeId
  cs : List Value
  m : Nat
abbrev Bs := List (Nat × Blk)
/-- Blocks that are kept in mind; slots that point into them (block, offset); slots that hold a slice of a whole one; the next number; whether the world is another one by now. -/
structure Trk where
  bs : Bs
  tg : List (Nat × Nat × Nat)
  sg : List (Nat × Nat)
  nx : Nat
  d : Bool
/-- The world W is w, but for the blocks that are kept in mind. -/
structure Loc (z : Nat) (T : List Blk) (w W : World) : Prop where
  kp : Kp (fun k => ∃ x ∈ T, x.m = 1 ∧ x.n = k) w W
  blk : ∀ x ∈ T, W.heap[x.n]? = some (.cells x.cs.toArray x.t (0, 0))
  ge : ∀ x ∈ T, z ≤ x.n
  ne : (T.map (·.n)).Nodup
  nw : ∀ x ∈ T, x.m = 2 → w.heap.size ≤ x.n
  hz : z ≤ w.heap.size
/-- Blocks that are as they were. -/
structure KeptL (T : List Nat) (W w' : World) : Prop where
  size : W.heap.size ≤ w'.heap.size
  h : ∀ n ∈ T, n < W.heap.size → w'.heap[n]? = W.heap[n]?
def blksOf : Bs → List Blk
  | [] => []
  | x :: r => x.2 :: blksOf r
def allB (B : Bs) (T : Trk) : List Blk := blksOf (B ++ T.bs)
def numsOf : Bs → List Nat
  | [] => []
  | x :: r => x.2.n :: numsOf r
def keptF (l : List Nat) (W w' : World) (X : Prop) : Prop := KeptL l W w' ∧ X
def delN {α : Type} (d : Nat) : List (Nat × α) → List (Nat × α)
  | [] => []
  | x :: r => match x.1 == d with | true => delN d r | false => x :: delN d r
def memN (d : Nat) : List Nat → Bool
  | [] => false
  | x :: r => match x == d with | true => true | false => memN d r
def delAll {α : Type} (ds : List Nat) : List (Nat × α) → List (Nat × α)
  | [] => []
  | x :: r => match memN x.1 ds with | true => delAll ds r | false => x :: delAll ds r
def keepAll {α : Type} (ds : List Nat) : List (Nat × α) → List (Nat × α)
  | [] => []
  | x :: r => match memN x.1 ds with | true => x :: keepAll ds r | false => keepAll ds r
/-- The world that is spoken of is the world. -/
def calm : Bs → Bs
  | [] => []
  | x :: r => (x.1, ⟨x.2.n, x.2.t, x.2.cs, 0⟩) :: calm r
def Trk.untag (T : Trk) (dst : Option Nat) : Trk := match dst with
  | none => T
  | some d => ⟨T.bs, delN d T.tg, delN d T.sg, T.nx, T.d⟩
def Trk.untags (T : Trk) (ds : List Nat) : Trk := ⟨T.bs, delAll ds T.tg, delAll ds T.sg, T.nx, T.d⟩
/-- Some are let go; the world is the one that is spoken of. -/
def Trk.drop (T : Trk) (ids : List Nat) : Trk := ⟨calm (delAll ids T.bs), T.tg, T.sg, T.nx, false⟩
def Trk.soil (T : Trk) : Trk := ⟨T.bs, T.tg, T.sg, T.nx, true⟩
def wrM (m : Nat) : Nat := match m == 2 with | true => 2 | false => 1
def setB (id : Nat) (cs : List Value) : Bs → Bs
  | [] => []
  | x :: r => match x.1 == id with | true => (x.1, ⟨x.2.n, x.2.t, cs, wrM x.2.m⟩) :: r | false => x :: setB id cs r
def lookB (B : Bs) (T : Trk) (id : Nat) : Option Blk := match findN id T.bs with
  | some b => some b
  | none => findN id B
/-- The operands that are slots: what they point into. -/
def idsOf (T : Trk) : List Operand → List Nat
  | [] => []
  | .tmp s :: r => (match findN s T.tg, findN s T.sg with
    | some (id, _), _ => id :: idsOf T r
    | none, some id => id :: idsOf T r
    | none, none => idsOf T r)
  | _ :: r => idsOf T r
/-- What an operation lets out. -/
def escO (T : Trk) (o : Oper) : List Nat := match o.op with
  | .load _ _ => []
  | .move _ => []
  | .assign _ => []
  | .nilCheck _ => []
  | .fieldAddr _ _ _ => []
  | .indexAddr _ _ (.const _) => []
  | .slice _ _ none none none => []
  | .binOp _ _ _ _ _ => []
  | .store _ _ v => idsOf T [v]
  | op => idsOf T op.operands.toList
/-- The world as it is now. -/
def syncF (z : Nat) (B : Bs) (T : Trk) (w : World) (K : World → Prop) : Prop := match T.d with
  | false => K w
  | true => ∀ W, Loc z (allB B T) w W → K W
def dropF (z : Nat) (B : Bs) (T : Trk) (ids : List Nat) (w : World) (K : Trk → World → Prop) : Prop := match ids with
  | [] => K T w
  | i :: r => syncF z B T w fun W => K (T.drop (i :: r)) W
def repl (cs : List Value) (o n : Nat) (new : List Value) : List Value := cs.take o ++ (new ++ cs.drop (o + n))
/-- What lies in a block of the function's own. -/
def trkLoad (E : Env) (B : Bs) (T : Trk) (s : Nat) (t : TypeId) : Option (Option Value) := match findN s T.tg with
  | none => none
  | some (id, off) => match lookB B T id with
    | none => none
    | some b => match ldK E.P t with
      | some (agg, n) => (match ((b.cs.drop off).take n).length == n with
        | true => some (some (toV agg ((b.cs.drop off).take n)))
        | false => some none)
      | none => some none
def fieldOff (P : Program) (s : TypeId) (f : Nat) : Option Nat := match P.underlying s with
  | some (.struct fs) => (match fs[f]? with
    | some fd => (match szOf P fd.type with
      | some 0 => none
      | some (_ + 1) => some fd.offset
      | none => none)
    | none => none)
  | _ => none
def isNone' {α : Type} : Option α → Bool
  | none => true
  | some _ => false
/-- Addresses inside the blocks: the block's number in mind, the address. -/
def trkAddr (E : Env) (B : Bs) (T : Trk) (o : Oper) : Option (Nat × Nat × Nat) := match isNone' o.guard with
  | false => none
  | true => match o.op with
    | .fieldAddr st (.tmp s) f => (match findN s T.tg with
      | some (id, off) => (match lookB B T id, fieldOff E.P st f with
        | some b, some k => some (id, b.n, off + k)
        | _, _ => none)
      | none => none)
    | .indexAddr t (.tmp s) (.const (.int _ i)) => (match findN s T.tg with
      | some (id, off) => (match lookB B T id, E.P.underlying t with
        | some b, some (.array n e) => (match szOf E.P e, decide (0 ≤ i) && decide (i < (n : Int)) with
          | some sz, true => some (id, b.n, idx off i sz)
          | _, _ => none)
        | _, _ => none)
      | none => none)
    | .move (.tmp s) => (match findN s T.tg with | some (id, off) => (match lookB B T id with | some b => some (id, b.n, off) | none => none) | none => none)
    | .assign (.tmp s) => (match findN s T.tg with | some (id, off) => (match lookB B T id with | some b => some (id, b.n, off) | none => none) | none => none)
    | .nilCheck (.tmp s) => (match findN s T.tg with | some (id, off) => (match lookB B T id with | some b => some (id, b.n, off) | none => none) | none => none)
    | _ => none
/-- A slice of a whole block. -/
def trkSlice (E : Env) (B : Bs) (T : Trk) (o : Oper) : Option (Nat × Nat × Nat) := match isNone' o.guard with
  | false => none
  | true => match o.op with
    | .slice t (.tmp s) none none none => (match findN s T.tg with
      | some (id, 0) => (match lookB B T id, E.P.underlying t with
        | some b, some (.array n e) => (match szOf E.P e with
          | some _ => some (id, b.n, n)
          | none => none)
        | _, _ => none)
      | _ => none)
    | _ => none
def addTg (dst : Option Nat) (id off : Nat) (T : Trk) : Trk := match dst with
  | none => T
  | some d => ⟨T.bs, (d, id, off) :: delN d T.tg, delN d T.sg, T.nx, T.d⟩
def addSg (dst : Option Nat) (id : Nat) (T : Trk) : Trk := match dst with
  | none => T
  | some d => ⟨T.bs, delN d T.tg, (d, id) :: delN d T.sg, T.nx, T.d⟩
/-- A slot that is there. -/
def inB (dst : Option Nat) (l : Fr) : Bool := match dst with
  | none => true
  | some d => Nat.blt d l.length
/-- An operation that leaves the world as it is. -/
def still2 (E : Env) (z : Nat) (B : Bs) (o : Oper) (ctx : Option (Nat × Bool)) (l : Fr) (T : Trk) (w : World) (K : Fr → Trk → World → Prop) : Prop :=
  match (match o.op with | .load t (.tmp s) => trkLoad E B T s t | _ => none) with
  | some (some v) => (match deadB l 12 ctx with
    | true => K (putF l o.dst (.v undef)) (T.untag o.dst) w
    | false => (match gB l 12 ctx with
      | some _ => K (putF l o.dst (finS ctx o.dst v)) (T.untag o.dst) w
      | none => False))
  | some none => False
  | none => match trkAddr E B T o with
    | some (id, n, off) => (match inB o.dst l with
      | true => K (putF l o.dst (.v (.pointer (some ⟨n, off, none⟩)))) (addTg o.dst id off T) w
      | false => False)
    | none => match trkSlice E B T o with
      | some (id, n, m) => (match inB o.dst l with
        | true => K (putF l o.dst (.v (.slice (some ⟨n, 0, none⟩) m m))) (addSg o.dst id T) w
        | false => False)
      | none => dropF z B T (escO T o) w fun T w => stillO E o l (syncF z B T w) ctx fun l' => K l' (T.untag o.dst) w
/-- The operations of 'still2'. -/
def isStill2 (E : Env) (l : Fr) (ctx : Option (Nat × Bool)) (op : Op) : Bool := match op with
  | .store _ _ _ => false
  | .mapUpdate _ _ _ _ => false
  | .insert _ _ _ _ => false
  | .range _ _ => false
  | .next _ _ => false
  | .alloc _ => false
  | .box _ _ => false
  | .buildSlice _ _ _ => false
  | .makeMap _ _ => false
  | .makeSlice _ _ _ => false
  | .convert src dst _ => (match E.P.underlying dst, E.P.underlying src with
    | some (.slice _), some .string => false
    | some (.slice _), some (.slice _) => false
    | _, _ => true)
  | .call { callee := .builtin .append, .. } => false
  | .call { callee := .builtin .delete, .. } => false
  | .call { callee := .builtin .clear, .. } => false
  | .call { callee := .value (.func f), args, .. } => (match E.pur f (args.toList.map (rdV l (chain l 12 ctx))) with | some _ => true | none => false)
  | .call { callee := .value _, .. } => false
  | .call { callee := .invoke _ _, .. } => false
  | _ => true
def Trk.add (T : Trk) (b : Blk) (dst : Option Nat) : Trk := match dst with
  | none => ⟨(T.nx, b) :: T.bs, T.tg, T.sg, T.nx + 1, true⟩
  | some d => ⟨(T.nx, b) :: T.bs, (d, T.nx, 0) :: delN d T.tg, delN d T.sg, T.nx + 1, true⟩
def Trk.addS (T : Trk) (b : Blk) (dst : Option Nat) : Trk := match dst with
  | none => ⟨(T.nx, b) :: T.bs, T.tg, T.sg, T.nx + 1, true⟩
  | some d => ⟨(T.nx, b) :: T.bs, delN d T.tg, (d, T.nx) :: delN d T.sg, T.nx + 1, true⟩
/-- The cells of a new slice. -/
def rowS2 (t : TypeId) (len : Nat) (parts : Array (Nat × Value)) : Sem (TypeId × Array Value) := do
  let .slice elem ← underlying t | stuck "buildSlice: slice type expected"
  let size ← sizeOf elem
  if len * size > 2 ^ 24 then unsupported (.resourceLimit "buildSlice: more than 2^24 cells")
  let zero ← if len * size = 0 then pure #[] else do pure (← zeroValue elem).cells
  let some cells := Instr.fill (fun i => some (i * size, size)) ((Array.range (len * size)).map (zero[· % zero.size]!)) parts.toList
    | stuck "buildSlice: a part of the wrong size"
  pure (elem, cells)
/-- A new block. -/
def new2 (E : Env) (o : Oper) (l : Fr) (T : Trk) (w : World) (K : Fr → Trk → World → Prop) : Prop := match o.op with
  | .alloc t => (match Sem.ev E.P (zeroValue t) with
    | some v => ∀ n : Nat, K (putF l o.dst (.v (.pointer (some ⟨n, 0, none⟩)))) (T.add ⟨n, t, v.cells.toList, 2⟩ o.dst) w
    | none => False)
  | .box t x => (match rd l [] x with
    | some v => ∀ n : Nat, K (putF l o.dst (.v (.pointer (some ⟨n, 0, none⟩)))) (T.add ⟨n, t, v.cells.toList, 2⟩ o.dst) w
    | none => False)
  | .buildSlice t len parts => (match allRd l [] o.op.operands.toList, Sem.ev E.P (rowS2 t len (parts.map fun (i, x) => (i, rdV l [] x))) with
    | true, some (e, cells) => ∀ n : Nat, K (putF l o.dst (.v (.slice (some ⟨n, 0, none⟩) len len))) (T.addS ⟨n, e, cells.toList, 2⟩ o.dst) w
    | _, _ => False)
  | _ => False
def isNew2 : Op → Bool
  | .alloc _ => true
  | .box _ _ => true
  | .buildSlice _ _ _ => true
  | _ => false
/-- What an effect may let out: the blocks that its operands point into. -/
def escE (T : Trk) (o : Oper) : List Nat := idsOf T o.op.operands.toList
/-- An effect on the world. -/
def eff2 (E : Env) (z : Nat) (B : Bs) (ops : Array Oper) (o : Oper) (l : Fr) (T : Trk) (w : World) (K : Fr → Trk → World → Prop) : Prop :=
  syncF z B T w fun W => seqF E ops o l W fun l' w' => keptF (numsOf (B ++ ((T.drop (escE T o)).untag o.dst).bs)) W w' (K l' ((T.drop (escE T o)).untag o.dst) w')
/-- A store into a block of the function's own. -/
def trkStore (E : Env) (T : Trk) (l : Fr) (op : Op) : Option (Option Trk) := match op with
  | .store t (.tmp s) v => (match findN s T.tg with
    | some (id, off) => (match findN id T.bs with
      | some b => (match rd l [] v, szOf E.P t with
        | some y, some n => (match y.cells.size == n && (oneB y.cells.toList && Nat.ble (off + n) b.cs.length) with
          | true => some (some ⟨setB id (repl b.cs off n y.cells.toList) T.bs, T.tg, T.sg, T.nx, true⟩)
          | false => some none)
        | _, _ => some none)
      | none => none)
    | none => none)
  | _ => none
/-- An append of a block of the function's own. -/
def trkApp (E : Env) (B : Bs) (T : Trk) (l : Fr) (op : Op) : Option (TypeId × Operand × Option Addr × Nat × Nat × List Value × Nat × Nat) := match op with
  | .call { callee := .builtin .append, args, argTypes } => (match args.toList, argTypes.toList with
    | [x, .tmp s], [t, t'] => (match t == t', findN s T.sg with
      | true, some id => (match lookB B T id, rd l [] x, rd l [] (.tmp s), E.P.underlying t with
        | some b, some (.slice p n c), some (.slice _ m _), some (.slice e) => (match E.P.info? e with
          | some i => (match i.zero with
            | some zv => (match zv.cells.size == i.size && (Nat.blt 0 i.size && (b.cs.length == m * i.size && b.cs.all Value.oneCell')) with
              | true => some (e, x, p, n, c, b.cs, m, id)
              | false => none)
            | none => none)
          | none => none)
        | _, _, _, _ => none)
      | _, _ => none)
    | _, _ => none)
  | _ => none
def szB (P : Program) (e : TypeId) : Nat × Nat := match P.info? e with | some i => (i.size, i.bytes) | none => (0, 0)
def app2F (E : Env) (z : Nat) (B : Bs) (o : Oper) (l : Fr) (T : Trk) (w : World) (e : TypeId) (p : Option Addr) (n c : Nat) (news : List Value) (m id : Nat) (K : Fr → Trk → World → Prop) : Prop :=
  syncF z B T w fun W => ∃ (base : Nat) (xs : List Value), World.ownsRow W base e (szB E.P e).1 (.slice p n c) n xs ∧ n + m ≤ maxLen ∧ (n + m) * (szB E.P e).2 ≤ 140737488355328 ∧ base ≤ W.heap.size ∧
    ∀ (p' : Option Addr) (c' : Nat) (w' : World), World.ownsRow w' base e (szB E.P e).1 (.slice p' (n + m) c') (n + m) (xs ++ news) → World.grownBy W w' (Value.ownBlock (.slice p n c)) → (n + m ≤ c → p' = p ∧ c' = c) →
      keptF (numsOf (B ++ ((T.drop [id]).untag o.dst).bs)) W w' (K (putF l o.dst (.v (.slice p' (n + m) c'))) ((T.drop [id]).untag o.dst) w')
/-- An operation in its place. -/
def seqF2 (E : Env) (z : Nat) (B : Bs) (ops : Array Oper) (o : Oper) (l : Fr) (T : Trk) (w : World) (K : Fr → Trk → World → Prop) : Prop :=
  match ctxOf ops o with
  | none => False
  | some ctx => match isNew2 o.op with
    | true => splitG l (chain l 12 ctx).reverse (fun l' => match inB o.dst l' with
        | true => dropF z B T (escE T o) w fun T w => new2 E o l' T w K
        | false => False) (fun l' => K (putF l' o.dst (.v undef)) (T.untag o.dst) w)
    | false => match trkStore E T l o.op with
      | some _ => splitG l (chain l 12 ctx).reverse (fun l' => match trkStore E T l' o.op with
          | some (some T') => dropF z B T' (escO T' o) w fun T w => K (putF l' o.dst (.v undef)) (T.untag o.dst) w
          | _ => False) (fun l' => K (putF l' o.dst (.v undef)) (T.untag o.dst) w)
      | none => match isNone' ctx, trkApp E B T l o.op with
        | true, some (e, _, p, n, c, news, m, id) => app2F E z B o l T w e p n c news m id K
        | _, _ => match isStill2 E l ctx o.op with
          | true => still2 E z B o ctx l T w K
          | false => eff2 E z B ops o l T w K
def seqOps2 (E : Env) (z : Nat) (B : Bs) (ops : Array Oper) (K : Fr → Trk → World → Prop) : List Oper → Fr → Trk → World → Prop
  | [], l, T, w => K l T w
  | o :: r, l, T, w => seqF2 E z B ops o l T w (seqOps2 E z B ops K r)
def stillOps2 (E : Env) (z : Nat) (B : Bs) (ops : Array Oper) (K : Fr → Trk → World → Prop) : List Oper → Fr → Trk → World → Prop
  | [], l, T, w => K l T w
  | o :: r, l, T, w => match ctxOf ops o with
    | none => False
    | some ctx => still2 E z B o ctx l T w (stillOps2 E z B ops K r)
/-! ### Which blocks a code touches (a hint only) -/
def uniN : List Nat → List Nat → List Nat
  | [], l => l
  | x :: r, l => match memN x l with | true => uniN r l | false => x :: uniN r l
def slotIds (tg : List (Nat × Nat)) : List Operand → List Nat
  | [] => []
  | .tmp s :: r => (match findN s tg with | some id => id :: slotIds tg r | none => slotIds tg r)
  | _ :: r => slotIds tg r
def addT (dst : Option Nat) (x : Operand) (tg : List (Nat × Nat)) : List (Nat × Nat) := match dst, x with
  | some d, .tmp s => (match findN s tg with | some id => (d, id) :: delN d tg | none => delN d tg)
  | some d, _ => delN d tg
  | none, _ => tg
def delT (dst : Option Nat) (tg : List (Nat × Nat)) : List (Nat × Nat) := match dst with | some d => delN d tg | none => tg
def touchO (o : Oper) (tg : List (Nat × Nat)) (acc : List Nat) : List (Nat × Nat) × List Nat := match o.op with
  | .load _ _ => (delT o.dst tg, acc)
  | .move x => (addT o.dst x tg, acc)
  | .assign x => (addT o.dst x tg, acc)
  | .nilCheck x => (addT o.dst x tg, acc)
  | .fieldAddr _ x _ => (addT o.dst x tg, acc)
  | .indexAddr _ x (.const _) => (addT o.dst x tg, acc)
  | .slice _ x none none none => (addT o.dst x tg, acc)
  | .binOp _ _ _ _ _ => (delT o.dst tg, acc)
  | op => (delT o.dst tg, uniN (slotIds tg op.operands.toList) acc)
def touchOs : List Oper → List (Nat × Nat) → List Nat → List (Nat × Nat) × List Nat
  | [], tg, acc => (tg, acc)
  | o :: r, tg, acc => match touchO o tg acc with | (tg', acc') => touchOs r tg' acc'
def touch : Code → List (Nat × Nat) → List Nat → List (Nat × Nat) × List Nat
  | .region _ ops _, tg, acc => touchOs ops.toList tg acc
  | .seq a b, tg, acc => (match touch a tg acc with | (tg', acc') => touch b tg' acc')
  | .cond _ a b, tg, acc => (match touch a tg acc with | (_, acc') => (match touch b tg acc' with | (_, acc'') => (tg, acc'')))
  | .block _ c, tg, acc => touch c tg acc
  | .loop c, tg, acc => touch c tg acc
  | _, tg, acc => (tg, acc)
def tagIds : List (Nat × Nat × Nat) → List (Nat × Nat) → List (Nat × Nat)
  | [], l => l
  | x :: r, l => (x.1, x.2.1) :: tagIds r l
def touched (c : Code) (T : Trk) : List Nat := (touch c (tagIds T.tg T.sg) []).2
def locF (z : Nat) (L : List Blk) (w : World) (X : Prop) : Prop := match L with
  | [] => X
  | b :: r => Loc z (b :: r) w w → X
def carriedS : List (Nat × Ck) → List Nat
  | [] => []
  | x :: r => x.1 :: carriedS r
def exec2 (E : Env) (z : Nat) : Code → Bs → (Exit → Fr → Trk → World → Prop) → Fr → Trk → World → Prop
  | .skip, _, Q, l, T, w => Q .normal l T w
  | .region _ ops false, B, Q, l, T, w => seqOps2 E z B ops (Q .normal) ops.toList l T w
  | .region id ops true, B, Q, l, T, w => (match E.P.follows .mixedOrders, findN id E.tails with
    | true, none => (match Region.lexB .any ops with
      | true => stillOps2 E z B ops (Q .normal) ops.toList l T.soil w
      | false => False)
    | true, some n => (match Region.lexTailB .any ops n with
      | true => stillOps2 E z B ops (seqOps2 E z B ops (Q .normal) (ops.toList.drop n)) (ops.toList.take n) l T.soil w
      | false => (match Region.noSelect ops, findN id E.boxes with
        | true, some _ => syncF z B T.soil w fun W => boxF E ops W (fun l' w1 => keptF (numsOf (B ++ ((T.drop (touched (.region id ops true) T)).untags (dsts (.region id ops true))).bs)) W w1 (Q .normal l' ((T.drop (touched (.region id ops true) T)).untags (dsts (.region id ops true))) w1)) (boxDs E.P ops.toList) (ops.size + 1) (Array.replicate ops.size false) (forget (boxDs E.P ops.toList) l)
        | true, none => syncF z B T.soil w fun W => ∃ S : World → Prop, S W ∧ heldF E ops S (fun l' w1 => keptF (numsOf (B ++ ((T.drop (touched (.region id ops true) T)).untags (dsts (.region id ops true))).bs)) W w1 (Q .normal l' ((T.drop (touched (.region id ops true) T)).untags (dsts (.region id ops true))) w1)) ops.size true (Array.replicate ops.size false) l W
        | false, _ => False))
    | false, _ => False)
  | .seq a b, B, Q, l, T, w => (match (firstR b).bind fun i => findN i E.joins with
    | none => exec2 E z a B (fun e l' T' w' => match e with | .normal => exec2 E z b B Q l' T' w' | e => Q e l' T' w') l T w
    | some carried => syncF z B T w fun W => ∃ J : List Value → World → Prop,
      exec2 E z a (B ++ calm (delAll (touched a T) T.bs)) (fun e l' T' w' => match e with
        | .normal => syncF z (B ++ calm (delAll (touched a T) T.bs)) T' w' fun W => (match readAll l' carried with | some vs => J vs W | none => False)
        | e => Q e l' ⟨calm (delAll (touched a T) T.bs) ++ T'.bs, T'.tg, T'.sg, T'.nx, T'.d⟩ w') l ⟨calm (keepAll (touched a T) T.bs), T.tg, T.sg, T.nx, false⟩ W ∧
      allT (carried.map (·.2)) fun vs => ∀ w', J vs w' → locF z (blksOf (B ++ calm (delAll (touched a T) T.bs))) w' (exec2 E z b B Q (setAll carried vs (forget (dsts a) l)) ((⟨calm (delAll (touched a T) T.bs), T.tg, T.sg, T.nx, false⟩ : Trk).untags (dsts a ++ carriedS carried)) w'))
  | .cond c a b, B, Q, l, T, w => (match rd l [] c with
    | some (.bool t) => bsp t (exec2 E z a B Q l T w) (exec2 E z b B Q l T w)
    | _ => False)
  | .block id c, B, Q, l, T, w => exec2 E z c B (fun e l' T' w' => match e with | .exit i => (match i == id with | true => Q .normal l' T' w' | false => Q (.exit i) l' T' w') | e => Q e l' T' w') l T w
  | .loop c, B, Q, l, T, w => (match (firstR c).bind fun i => findN i E.loops with
    | none => False
    | some carried => syncF z B T w fun W => ∃ (I : List Value → World → Prop) (m : List Value → World → Nat),
      (match readAll l carried with | some vs => I vs W | none => False) ∧
      allT (carried.map (·.2)) fun vs => ∀ w', I vs w' → locF z (blksOf (B ++ calm (delAll (touched c T) T.bs))) w' (exec2 E z c (B ++ calm (delAll (touched c T) T.bs)) (fun e l' T' w'' => match e with
        | .normal => syncF z (B ++ calm (delAll (touched c T) T.bs)) T' w'' fun W' => (match readAll l' carried with | some vs' => I vs' W' ∧ m vs' W' < m vs w' | none => False)
        | e => Q e l' ⟨calm (delAll (touched c T) T.bs) ++ T'.bs, T'.tg, T'.sg, T'.nx, T'.d⟩ w'') (setAll carried vs (forget (dsts c) l)) ((⟨[], T.tg, T.sg, T.nx, false⟩ : Trk).untags (dsts c ++ carriedS carried)) w'))
  | .exit id, _, Q, l, T, w => Q (.exit id) l T w
  | .ret, _, Q, l, T, w => Q .ret l T w
  | _, _, _, _, _, _ => False
def resF2 (E : Env) (z : Nat) (T : Trk) (l : Fr) (w : World) : List ResultVar → (List Value → Prop) → Prop
  | [], F => F []
  | .tmp t :: r, F => (match rd l [] (.tmp t) with | some v => resF2 E z T l w r fun vs => F (v :: vs) | none => False)
  | .cell a t :: r, F => (match trkLoad E [] T a t with
    | some (some v) => resF2 E z T l w r fun vs => F (v :: vs)
    | some none => False
    | none => (match rd l [] (.tmp a) with
      | some (.pointer p) => loadF E true t p (syncF z [] T w) fun v => resF2 E z T l w r fun vs => F (v :: vs)
      | _ => False))
def retQ2 (E : Env) (z : Nat) (rs : List ResultVar) (R : Ending → World → Prop) : Exit → Fr → Trk → World → Prop
  | .normal, l, T, w => resF2 E z T l w rs fun vs => syncF z [] T w fun W => R (.returned (retV vs)) W
  | .ret, l, T, w => resF2 E z T l w rs fun vs => syncF z [] T w fun W => R (.returned (retV vs)) W
  | _, _, _, _ => False
def execR2 (E : Env) (rs : List ResultVar) (R : Ending → World → Prop) (c : Code) (l : Fr) (w : World) : Prop :=
  match findN 999999 E.joins with
  | none => exec2 E w.heap.size c [] (retQ2 E w.heap.size rs R) l ⟨[], [], [], 0, false⟩ w
  | some carried => ∃ J : List Value → World → Prop,
    exec2 E w.heap.size c [] (fun e l' T' w' => match e with
      | .normal => syncF w.heap.size [] T' w' fun W => (match readAll l' carried with | some vs => J vs W | none => False)
      | .ret => syncF w.heap.size [] T' w' fun W => (match readAll l' carried with | some vs => J vs W | none => False)
      | _ => False) l ⟨[], [], [], 0, false⟩ w ∧
    allT (carried.map (·.2)) fun vs => ∀ w', J vs w' → resF E (setAll carried vs (l.map fun _ => .u)) w' rs fun vs => R (.returned (retV vs)) w'

end Go.Proofs.YtkkfnlehlkiejaaGreatDoor

/- The symbolic evaluator, seventh part: soundness of the sixth. Generic: no program, no condition. -/
namespace Go.Proofs.YtkkfnlehlkiejaaGreatDoor
open Go.RowKit

theorem blksOf_eq : ∀ l : Bs, blksOf l = l.map (·.2)
  | [] => rfl
  | x :: r => by simp [blksOf, blksOf_eq r]
theorem numsOf_eq : ∀ l : Bs, numsOf l = l.map (·.2.n)
  | [] => rfl
  | x :: r => by simp [numsOf, numsOf_eq r]
theorem mem_blks {l : Bs} {b : Blk} : b ∈ blksOf l ↔ ∃ i, (i, b) ∈ l := by
  rw [blksOf_eq, List.mem_map]
  constructor
  · rintro ⟨x, hx, rfl⟩; exact ⟨x.1, hx⟩
  · rintro ⟨i, hi⟩; exact ⟨(i, b), hi, rfl⟩
theorem findN_mem {α : Type} {i : Nat} : ∀ {l : List (Nat × α)} {x : α}, findN i l = some x → (i, x) ∈ l
  | [], x, h => by simp [findN] at h
  | (j, y) :: r, x, h => by
    simp only [findN] at h
    cases hj : i == j with
    | true =>
      rw [hj] at h
      have : i = j := by simpa using hj
      simp at h; subst h; subst this; simp
    | false => rw [hj] at h; exact List.mem_cons_of_mem _ (findN_mem h)
theorem lookB_mem {B : Bs} {T : Trk} {id : Nat} {b : Blk} (h : lookB B T id = some b) : (id, b) ∈ B ++ T.bs := by
  unfold lookB at h
  split at h
  · rename_i x hx
    simp at h; subst h
    exact List.mem_append.2 (.inr (findN_mem hx))
  · exact List.mem_append.2 (.inl (findN_mem h))
theorem delN_mem {α : Type} {d : Nat} : ∀ {l : List (Nat × α)} {x : Nat × α}, x ∈ delN d l → x ∈ l ∧ x.1 ≠ d
  | [], x, h => by simp [delN] at h
  | y :: r, x, h => by
    simp only [delN] at h
    cases hj : y.1 == d with
    | true =>
      rw [hj] at h
      obtain ⟨h1, h2⟩ := delN_mem h
      exact ⟨List.mem_cons_of_mem _ h1, h2⟩
    | false =>
      rw [hj] at h
      rcases List.mem_cons.1 h with h | h
      · subst h; exact ⟨List.mem_cons_self, by simpa using hj⟩
      · obtain ⟨h1, h2⟩ := delN_mem h
        exact ⟨List.mem_cons_of_mem _ h1, h2⟩
theorem memN_iff {d : Nat} : ∀ {l : List Nat}, memN d l = true ↔ d ∈ l
  | [] => by simp [memN]
  | x :: r => by
    simp only [memN]
    cases hx : x == d with
    | true => have : x = d := by simpa using hx
              subst this; simp
    | false =>
      have : ¬ d = x := fun e => by subst e; simp at hx
      simp [memN_iff, this]
theorem delAll_mem {α : Type} {ds : List Nat} : ∀ {l : List (Nat × α)} {x : Nat × α}, x ∈ delAll ds l → x ∈ l ∧ x.1 ∉ ds
  | [], x, h => by simp [delAll] at h
  | y :: r, x, h => by
    simp only [delAll] at h
    cases hj : memN y.1 ds with
    | true =>
      rw [hj] at h
      obtain ⟨h1, h2⟩ := delAll_mem h
      exact ⟨List.mem_cons_of_mem _ h1, h2⟩
    | false =>
      rw [hj] at h
      rcases List.mem_cons.1 h with h | h
      · subst h; exact ⟨List.mem_cons_self, fun hm => by rw [memN_iff.2 hm] at hj; cases hj⟩
      · obtain ⟨h1, h2⟩ := delAll_mem h
        exact ⟨List.mem_cons_of_mem _ h1, h2⟩
theorem delAll_sub {α : Type} {ds : List Nat} : ∀ (l : List (Nat × α)), (delAll ds l).Sublist l
  | [] => .slnil
  | y :: r => by
    simp only [delAll]
    cases memN y.1 ds with
    | true => exact (delAll_sub r).cons _
    | false => exact (delAll_sub r).cons_cons _
theorem delKeep_perm {α : Type} {ds : List Nat} : ∀ (l : List (Nat × α)), (delAll ds l ++ keepAll ds l).Perm l
  | [] => .refl _
  | y :: r => by
    simp only [delAll, keepAll]
    cases memN y.1 ds with
    | true => exact List.perm_middle.trans (.cons _ (delKeep_perm r))
    | false => exact .cons _ (delKeep_perm r)
theorem calm_mem {l : Bs} {x : Nat × Blk} (h : x ∈ calm l) : x.2.m = 0 ∧ ∃ y ∈ l, y.1 = x.1 ∧ y.2.n = x.2.n := by
  induction l with
  | nil => cases h
  | cons a r ih =>
    rcases List.mem_cons.1 h with h | h
    · subst h; exact ⟨rfl, a, List.mem_cons_self, rfl, rfl⟩
    · obtain ⟨h1, y, hy, h2⟩ := ih h
      exact ⟨h1, y, List.mem_cons_of_mem _ hy, h2⟩
/-- What does not change when the world is spoken of anew. -/
def Blk.key (x : Blk) : Nat × TypeId × List Value := (x.n, x.t, x.cs)
theorem calm_key : ∀ l : Bs, (blksOf (calm l)).map Blk.key = (blksOf l).map Blk.key
  | [] => rfl
  | x :: r => by simp only [calm, blksOf, List.map_cons, calm_key r]; rfl
theorem drop_tg (T : Trk) (ids : List Nat) : (T.drop ids).tg = T.tg ∧ (T.drop ids).sg = T.sg ∧ (T.drop ids).nx = T.nx := ⟨rfl, rfl, rfl⟩
theorem untag_bs (T : Trk) (dst : Option Nat) : (T.untag dst).bs = T.bs := by unfold Trk.untag; split <;> rfl

/-! ### The worlds -/
theorem loc_zero {z : Nat} {L L' L'' : List Blk} {w W : World} (h : Loc z L w W) (hs : L'.Sublist L) (hk : L''.map Blk.key = L'.map Blk.key) (hm : ∀ x ∈ L'', x.m = 0) : Loc z L'' W W := by
  have old : ∀ x ∈ L'', ∃ y ∈ L, y.key = x.key := fun x hx => by
    have : x.key ∈ L'.map Blk.key := by rw [← hk]; exact List.mem_map.2 ⟨x, hx, rfl⟩
    obtain ⟨y, hy, e⟩ := List.mem_map.1 this
    exact ⟨y, hs.subset hy, e⟩
  refine ⟨.refl _ _, fun x hx => ?_, fun x hx => ?_, ?_, (fun x hx h2 => by rw [hm x hx] at h2; cases h2), Nat.le_trans h.hz h.kp.size⟩
  · obtain ⟨y, hy, e⟩ := old x hx
    have := h.blk y hy
    simp only [Blk.key, Prod.mk.injEq] at e
    rw [← e.1, ← e.2.1, ← e.2.2]; exact this
  · obtain ⟨y, hy, e⟩ := old x hx
    have := h.ge y hy
    simp only [Blk.key, Prod.mk.injEq] at e
    rw [← e.1]; exact this
  · have e : ∀ l : List Blk, l.map (·.n) = (l.map Blk.key).map (·.1) := fun l => by rw [List.map_map]; rfl
    rw [e, hk, ← e]
    exact h.ne.sublist (hs.map _)
theorem Loc.perm {z : Nat} {T T' : List Blk} {w W : World} (h : Loc z T w W) (hs : T.Perm T') : Loc z T' w W :=
  ⟨h.kp.mono fun _ _ ⟨x, hx, e⟩ => ⟨x, hs.mem_iff.1 hx, e⟩, fun x hx => h.blk x (hs.mem_iff.2 hx), fun x hx => h.ge x (hs.mem_iff.2 hx), (hs.map _).nodup_iff.1 h.ne, fun x hx => h.nw x (hs.mem_iff.2 hx), h.hz⟩
theorem Loc.drew {z : Nat} {T : List Blk} {w W : World} (h : Loc z T w W) : Loc z T w W.drew := ⟨h.kp.drew, h.blk, h.ge, h.ne, h.nw, h.hz⟩
/-- What was kept is kept. -/
theorem Loc.k0 {w0 : World} {T : List Blk} {w W : World} (h : Loc w0.heap.size T w W) (hk : K0 w0 w) : K0 w0 W :=
  hk.fresh h.kp (fun i hi ⟨x, hx, _, e⟩ => by have := h.ge x hx; omega)
/-- No old block is written. -/
theorem Loc.kk {z : Nat} {T : List Blk} {w W : World} (h : Loc z T w W) (hm : (T.all fun x => !(x.m == 1)) = true) : K0 w W := h.kp.mono fun _ _ ⟨x, hx, e, _⟩ => by
  have := List.all_eq_true.1 hm x hx
  simp [e] at this
theorem Loc.fresh {z : Nat} {T : List Blk} {w W : World} (h : Loc z T w W) (i : Nat) {b : Blk} (hb : T[i]? = some b) (hm : b.m = 2) : w.heap.size ≤ b.n := h.nw b (List.mem_of_getElem? hb) hm
theorem Loc.apart {z : Nat} {T : List Blk} {w W : World} (h : Loc z T w W) (i j : Nat) {a b : Blk} (ha : T[i]? = some a) (hb : T[j]? = some b) (hij : i ≠ j) : a.n ≠ b.n := fun e => by
  have h1 : (T.map (·.n))[i]? = some a.n := by rw [List.getElem?_map, ha]; rfl
  have h2 : (T.map (·.n))[j]? = some b.n := by rw [List.getElem?_map, hb]; rfl
  obtain ⟨hi, e1⟩ := List.getElem?_eq_some_iff.1 h1
  obtain ⟨hj, e2⟩ := List.getElem?_eq_some_iff.1 h2
  have key := List.pairwise_iff_getElem.1 h.ne
  rcases Nat.lt_or_gt_of_ne hij with hlt | hlt
  · exact key i j hi hj hlt (e1.trans (e.trans e2.symm))
  · exact key j i hj hi hlt (e2.trans (e.symm.trans e1.symm))
theorem Loc.cells {z : Nat} {T : List Blk} {w W : World} (h : Loc z T w W) (i : Nat) {b : Blk} (hb : T[i]? = some b) : W.heap[b.n]? = some (.cells b.cs.toArray b.t (0, 0)) := h.blk b (List.mem_of_getElem? hb)
theorem Loc.le {z : Nat} {T : List Blk} {w W : World} (h : Loc z T w W) (i : Nat) {b : Blk} (hb : T[i]? = some b) : z ≤ b.n := h.ge b (List.mem_of_getElem? hb)
theorem KeptL.of_kp {l : List Nat} {W w' : World} {M : Nat → Prop} (h : Kp M W w') (hl : ∀ n ∈ l, ¬ M n) : KeptL l W w' := ⟨h.size, fun n hn hlt => h.block n hlt (hl n hn)⟩
theorem KeptL.of_k0 {l : List Nat} {W w' : World} (h : K0 W w') : KeptL l W w' := .of_kp h (fun _ _ h => h)
theorem KeptL.refl (l : List Nat) (W : World) : KeptL l W W := ⟨Nat.le_refl _, fun _ _ _ => rfl⟩
theorem keptF_ok {L : Bs} {W w' : World} {X : Prop} (h : keptF (numsOf L) W w' X) : W.heap.size ≤ w'.heap.size ∧ (∀ x ∈ L, x.2.n < W.heap.size → w'.heap[x.2.n]? = W.heap[x.2.n]?) ∧ X :=
  ⟨h.1.size, fun x hx => h.1.h _ (by rw [numsOf_eq]; exact List.mem_map.2 ⟨x, hx, rfl⟩), h.2⟩
/-- The world that is spoken of, and the world. -/
structure LocD (z : Nat) (B : Bs) (T : Trk) (w W : World) : Prop where
  l : Loc z (allB B T) w W
  d : T.d = false → W = w
  b0 : ∀ x ∈ B, x.2.m = 0
theorem syncF_use {z : Nat} {B : Bs} {T : Trk} {w W : World} {K : World → Prop} (h : syncF z B T w K) (hL : LocD z B T w W) : K W := by
  unfold syncF at h
  split at h
  · rename_i hd; rw [hL.d hd]; exact h
  · exact h W hL.l
theorem blks_sub {l l' : Bs} (h : l.Sublist l') : (blksOf l).Sublist (blksOf l') := by rw [blksOf_eq, blksOf_eq]; exact h.map _
theorem blks_app (l l' : Bs) : blksOf (l ++ l') = blksOf l ++ blksOf l' := by simp [blksOf_eq]
/-- The world is spoken of anew. -/
theorem LocD.anew {z : Nat} {B : Bs} {T T' : Trk} {w W : World} (h : LocD z B T w W) {ids : List Nat} (hs : T'.bs = calm (delAll ids T.bs)) : LocD z B T' W W := by
  refine ⟨loc_zero (L' := blksOf (B ++ delAll ids T.bs)) h.l (blks_sub ((List.Sublist.refl B).append (delAll_sub _))) ?_ ?_, fun _ => rfl, h.b0⟩
  · unfold allB; rw [hs, blks_app, blks_app, List.map_append, List.map_append, calm_key]
  · intro x hx
    obtain ⟨i, hi⟩ := mem_blks.1 hx
    rcases List.mem_append.1 hi with hi | hi
    · exact h.b0 _ hi
    · rw [hs] at hi; exact (calm_mem hi).1
theorem LocD.eff {z : Nat} {B : Bs} {T T' : Trk} {w W w' : World} (h : LocD z B T w W) {ids : List Nat} (hs : T'.bs = calm (delAll ids T.bs)) (hsz : W.heap.size ≤ w'.heap.size) (hk : ∀ x ∈ B ++ T'.bs, x.2.n < W.heap.size → w'.heap[x.2.n]? = W.heap[x.2.n]?) : LocD z B T' w' w' := by
  obtain ⟨h1, _, h3⟩ := h.anew hs
  refine ⟨⟨.refl _ _, fun x hx => ?_, h1.ge, h1.ne, fun x hx h2 => ?_, Nat.le_trans h1.hz hsz⟩, fun _ => rfl, h3⟩
  · obtain ⟨i, hi⟩ := mem_blks.1 hx
    rw [hk _ hi (block_lt (h1.blk x hx))]
    exact h1.blk x hx
  · exfalso
    obtain ⟨i, hi⟩ := mem_blks.1 hx
    have : x.m = 0 := by
      rcases List.mem_append.1 hi with hi | hi
      · exact h.b0 _ hi
      · rw [hs] at hi; exact (calm_mem hi).1
    omega

/-! ### The slots that point into the blocks -/
structure TagOK (B : Bs) (T : Trk) (t : Array Value) : Prop where
  p : ∀ s id off, (s, id, off) ∈ T.tg → id < T.nx ∧ ∀ b, (id, b) ∈ B ++ T.bs → t.getD s undef = .pointer (some ⟨b.n, off, none⟩)
  s : ∀ s id, (s, id) ∈ T.sg → id < T.nx ∧ ∀ b, (id, b) ∈ B ++ T.bs → ∃ m c, t.getD s undef = .slice (some ⟨b.n, 0, none⟩) m c
  lt : ∀ x ∈ B ++ T.bs, x.1 < T.nx
theorem TagOK.of {B B' : Bs} {T T' : Trk} {t t' : Array Value} (h : TagOK B T t) (h1 : ∀ x ∈ T'.tg, x ∈ T.tg ∧ t'.getD x.1 undef = t.getD x.1 undef) (h2 : ∀ x ∈ T'.sg, x ∈ T.sg ∧ t'.getD x.1 undef = t.getD x.1 undef)
    (h3 : ∀ x ∈ B' ++ T'.bs, ∃ y ∈ B ++ T.bs, y.1 = x.1 ∧ y.2.n = x.2.n) (h4 : T.nx ≤ T'.nx) : TagOK B' T' t' := by
  refine ⟨fun s id off hx => ?_, fun s id hx => ?_, fun x hx => by obtain ⟨y, hy, e, _⟩ := h3 x hx; have := h.lt y hy; omega⟩
  · obtain ⟨a, b⟩ := h1 _ hx
    obtain ⟨c, d⟩ := h.p s id off a
    refine ⟨by omega, fun bb hb => ?_⟩
    obtain ⟨⟨i, y⟩, hy, rfl, e2⟩ := h3 _ hb
    have := d y hy
    simp only at b e2
    rw [b, this, e2]
  · obtain ⟨a, b⟩ := h2 _ hx
    obtain ⟨c, d⟩ := h.s s id a
    refine ⟨by omega, fun bb hb => ?_⟩
    obtain ⟨⟨i, y⟩, hy, rfl, e2⟩ := h3 _ hb
    obtain ⟨m, k, e⟩ := d y hy
    simp only at b e2
    exact ⟨m, k, by rw [b, e, e2]⟩
theorem TagOK.put {B : Bs} {T : Trk} {t : Array Value} (h : TagOK B T t) {dst : Option Nat} {t' : Array Value} (hs : Same dst.toList t t') : TagOK B (T.untag dst) t' := by
  cases dst with
  | none => exact h.of (fun x hx => ⟨hx, hs.at_ _ (by simp)⟩) (fun x hx => ⟨hx, hs.at_ _ (by simp)⟩) (fun x hx => ⟨x, hx, rfl, rfl⟩) (Nat.le_refl _)
  | some d =>
    refine h.of (fun x hx => ?_) (fun x hx => ?_) (fun x hx => ⟨x, hx, rfl, rfl⟩) (Nat.le_refl _)
    · obtain ⟨h1, h2⟩ := delN_mem hx; exact ⟨h1, hs.at_ _ (by simpa using h2)⟩
    · obtain ⟨h1, h2⟩ := delN_mem hx; exact ⟨h1, hs.at_ _ (by simpa using h2)⟩
theorem TagOK.drop {B : Bs} {T : Trk} {t : Array Value} (h : TagOK B T t) (ids : List Nat) : TagOK B (T.drop ids) t := by
  obtain ⟨e1, e2, e3⟩ := drop_tg T ids
  refine h.of (fun x hx => ⟨by rw [e1] at hx; exact hx, rfl⟩) (fun x hx => ⟨by rw [e2] at hx; exact hx, rfl⟩) (fun x hx => ?_) (by omega)
  rcases List.mem_append.1 hx with hx | hx
  · exact ⟨x, List.mem_append.2 (.inl hx), rfl, rfl⟩
  · obtain ⟨_, y, hy, h2⟩ := calm_mem hx
    exact ⟨y, List.mem_append.2 (.inr (delAll_mem hy).1), h2⟩
theorem dropF_ok {z : Nat} {B : Bs} {T : Trk} {ids : List Nat} {w W : World} {K : Trk → World → Prop} {t : Array Value} (hf : dropF z B T ids w K) (hT : TagOK B T t) (hL : LocD z B T w W) : ∃ T' w', K T' w' ∧ TagOK B T' t ∧ LocD z B T' w' W := by
  unfold dropF at hf
  split at hf
  · exact ⟨T, w, hf, hT, hL⟩
  · exact ⟨_, W, syncF_use hf hL, hT.drop _, hL.anew rfl⟩
theorem trkLoad_ok {E : Env} {z : Nat} {B : Bs} {T : Trk} {s : Nat} {ty : TypeId} {v : Value} {t : Array Value} {w W : World} (h : trkLoad E B T s ty = some (some v)) (hT : TagOK B T t) (hL : Loc z (allB B T) w W) :
    ∃ b off agg n cs, t.getD s undef = .pointer (some ⟨b, off, none⟩) ∧ ldK E.P ty = some (agg, n) ∧ (cs.length == n) = true ∧ At W b off cs ∧ v = toV agg cs := by
  unfold trkLoad at h
  split at h
  · cases h
  · rename_i id off hid
    split at h
    · cases h
    · rename_i b hb
      split at h
      · rename_i agg n hk
        split at h
        · rename_i hn
          simp at h; subst h
          have hm := lookB_mem hb
          refine ⟨b.n, off, agg, n, (b.cs.drop off).take n, (hT.p s id off (findN_mem hid)).2 b hm, hk, hn, ?_, rfl⟩
          have hbk := hL.blk b (mem_blks.2 ⟨id, hm⟩)
          refine (AtL_block hbk ?_).h
          have : ((b.cs.drop off).take n).length = n := by simpa using hn
          rw [this]
        · cases h
      · cases h
theorem Same.dst {t t' : Array Value} {dst : Option Nat} {v : Value} (h : t' = (({ tmps := t, defers := [] } : Act).put dst v).tmps) : Same dst.toList t t' := by rw [h]; exact .put t dst v
theorem run_fieldAt {P : Program} {st : TypeId} {f k b o : Nat} {w : World} (h : fieldOff P st f = some k) : (Instr.fieldAt st (.pointer (some ⟨b, o, none⟩)) f).run P w = .ok (.pointer (some ⟨b, o + k, none⟩)) w := by
  unfold fieldOff at h
  split at h
  · rename_i fs hu
    split at h
    · rename_i fd hfd
      split at h
      · cases h
      · rename_i m hsz
        simp at h; subst h
        have hU := run_underlying' (w := w) hu
        have hS := run_sizeOf' (w := w) hsz
        simp [Instr.fieldAt, hU, hfd, Instr.sureAddr, fieldPlace, hS, add_plain]
      · cases h
    · cases h
  · cases h
end Go.Proofs.YtkkfnlehlkiejaaGreatDoor

/- The symbolic evaluator, eighth part: soundness of the sixth, operations. Generic: no program, no condition. -/
namespace Go.Proofs.YtkkfnlehlkiejaaGreatDoor
open Go.RowKit

theorem inB_get {l : Fr} {t : Array Value} (h : Rel l t) {d : Nat} (hb : inB (some d) l = true) (v : Value) : (({ tmps := t, defers := [] } : Act).put (some d) v).tmps.getD d undef = v := by
  have hd : d < l.length := by simpa [inB] using hb
  have : d < t.size := by rw [h.size]; exact hd
  show (t.setIfInBounds d v).getD d undef = v
  exact getD_set_eq v this
theorem tag_addTg {B : Bs} {T : Trk} {t : Array Value} {l : Fr} {dst : Option Nat} {id off : Nat} {b : Blk} (hR : Rel l t) (hi : inB dst l = true) (h : TagOK B T t) {s o' : Nat} (hs : (s, id, o') ∈ T.tg) (hsame : ∀ b', (id, b') ∈ B ++ T.bs → b'.n = b.n) :
    TagOK B (addTg dst id off T) (({ tmps := t, defers := [] } : Act).put dst (.pointer (some ⟨b.n, off, none⟩))).tmps := by
  have hS := Same.put t dst (.pointer (some ⟨b.n, off, none⟩))
  cases dst with
  | none => exact h.of (fun x hx => ⟨hx, hS.at_ _ (by simp)⟩) (fun x hx => ⟨hx, hS.at_ _ (by simp)⟩) (fun x hx => ⟨x, hx, rfl, rfl⟩) (Nat.le_refl _)
  | some d =>
    have h0 := h.put hS
    refine ⟨fun s i o hx => ?_, fun s i hx => h0.s s i hx, h0.lt⟩
    rcases List.mem_cons.1 hx with hx | hx
    · cases hx
      refine ⟨(h.p _ _ _ hs).1, fun b' hb' => ?_⟩
      rw [inB_get hR hi, hsame b' hb']
    · exact h0.p s i o hx
theorem tag_addSg {B : Bs} {T : Trk} {t : Array Value} {l : Fr} {dst : Option Nat} {id m : Nat} {b : Blk} (hR : Rel l t) (hi : inB dst l = true) (h : TagOK B T t) {s o' : Nat} (hs : (s, id, o') ∈ T.tg) (hsame : ∀ b', (id, b') ∈ B ++ T.bs → b'.n = b.n) :
    TagOK B (addSg dst id T) (({ tmps := t, defers := [] } : Act).put dst (.slice (some ⟨b.n, 0, none⟩) m m)).tmps := by
  have hS := Same.put t dst (.slice (some ⟨b.n, 0, none⟩) m m)
  cases dst with
  | none => exact h.of (fun x hx => ⟨hx, hS.at_ _ (by simp)⟩) (fun x hx => ⟨hx, hS.at_ _ (by simp)⟩) (fun x hx => ⟨x, hx, rfl, rfl⟩) (Nat.le_refl _)
  | some d =>
    have h0 := h.put hS
    refine ⟨fun s i o hx => h0.p s i o hx, fun s i hx => ?_, h0.lt⟩
    rcases List.mem_cons.1 hx with hx | hx
    · cases hx
      refine ⟨(h.p _ _ _ hs).1, fun b' hb' => ⟨m, m, ?_⟩⟩
      rw [inB_get hR hi, hsame b' hb']
    · exact h0.s s i hx
/-- All blocks of one number in mind are one. -/
theorem TagOK.same {B : Bs} {T : Trk} {t : Array Value} (h : TagOK B T t) {s id off : Nat} (hs : (s, id, off) ∈ T.tg) {b : Blk} (hb : (id, b) ∈ B ++ T.bs) : ∀ b', (id, b') ∈ B ++ T.bs → b'.n = b.n := fun b' hb' => by
  have h1 := (h.p _ _ _ hs).2 b hb
  have h2 := (h.p _ _ _ hs).2 b' hb'
  rw [h1] at h2
  simp at h2
  exact h2.symm
theorem isNone_eq {α : Type} {x : Option α} (h : isNone' x = true) : x = none := by cases x with | none => rfl | some _ => cases h

section
variable {E : Env} (hp : PurOK E) {ops : Array Oper} {z : Nat} {B : Bs}
omit hp in
theorem trkAddr_ok {T : Trk} {o : Oper} {t : Array Value} {w : World} {id n off : Nat} (h : trkAddr E B T o = some (id, n, off)) (hT : TagOK B T t) :
    o.guard = none ∧ (∃ b s o', (id, b) ∈ B ++ T.bs ∧ b.n = n ∧ (s, id, o') ∈ T.tg) ∧ YieldsV E.P o { tmps := t, defers := [] } w (.pointer (some ⟨n, off, none⟩)) := by
  obtain ⟨dst, op, ty, pos, aft, gd⟩ := o
  unfold trkAddr at h
  split at h
  · cases h
  rename_i hg
  refine ⟨isNone_eq hg, ?_⟩
  simp only at h
  have cpy : ∀ {s : Nat} {id' off' : Nat} {b : Blk}, findN s T.tg = some (id', off') → lookB B T id' = some b → (∃ b' s o', (id', b') ∈ B ++ T.bs ∧ b'.n = b.n ∧ (s, id', o') ∈ T.tg) ∧ t.getD s undef = .pointer (some ⟨b.n, off', none⟩) := fun h1 h2 =>
    ⟨⟨_, _, _, lookB_mem h2, rfl, findN_mem h1⟩, (hT.p _ _ _ (findN_mem h1)).2 _ (lookB_mem h2)⟩
  split at h
  · rename_i st s f
    split at h
    · rename_i id' off' hf
      split at h
      · rename_i b k hb hk
        simp at h
        obtain ⟨rfl, rfl, rfl⟩ := h
        obtain ⟨h1, h2⟩ := cpy hf hb
        refine ⟨h1, .inl ?_⟩
        have := run_fieldAt (w := w) (b := b.n) (o := off') hk
        simp only [execOp, Act.eval, h2]
        simp [this]
      · cases h
    · cases h
  · rename_i tt s k i
    split at h
    · rename_i id' off' hf
      split at h
      · rename_i b m e hb hu
        split at h
        · rename_i sz hsz hi
          simp at h
          obtain ⟨rfl, rfl, rfl⟩ := h
          obtain ⟨h1, h2⟩ := cpy hf hb
          refine ⟨h1, .inl ?_⟩
          have hU := run_underlying' (w := w) hu
          have hS := run_sizeOf' (w := w) hsz
          simp only [Bool.and_eq_true, decide_eq_true_eq] at hi
          simp only [execOp, Act.eval, h2]
          simp [Instr.indexAt, asIntOf, hU, hi.1, hi.2, hS, add_plain, idx_eq, Instr.sureAddr]
        · cases h
      · cases h
    · cases h
  · rename_i s
    split at h
    · rename_i id' off' hf
      split at h
      · rename_i b hb
        simp at h
        obtain ⟨rfl, rfl, rfl⟩ := h
        obtain ⟨h1, h2⟩ := cpy hf hb
        refine ⟨h1, .inl ?_⟩
        simp only [execOp, Act.eval, h2]
        rfl
      · cases h
    · cases h
  · rename_i s
    split at h
    · rename_i id' off' hf
      split at h
      · rename_i b hb
        simp at h
        obtain ⟨rfl, rfl, rfl⟩ := h
        obtain ⟨h1, h2⟩ := cpy hf hb
        refine ⟨h1, .inl ?_⟩
        simp only [execOp, Act.eval, h2]
        rfl
      · cases h
    · cases h
  · rename_i s
    split at h
    · rename_i id' off' hf
      split at h
      · rename_i b hb
        simp at h
        obtain ⟨rfl, rfl, rfl⟩ := h
        obtain ⟨h1, h2⟩ := cpy hf hb
        refine ⟨h1, .inl ?_⟩
        simp only [execOp, Act.eval, h2]
        rfl
      · cases h
    · cases h
  · cases h
omit hp in
theorem trkSlice_ok {T : Trk} {o : Oper} {t : Array Value} {w : World} {id n m : Nat} (h : trkSlice E B T o = some (id, n, m)) (hT : TagOK B T t) :
    o.guard = none ∧ (∃ b s o', (id, b) ∈ B ++ T.bs ∧ b.n = n ∧ (s, id, o') ∈ T.tg) ∧ YieldsV E.P o { tmps := t, defers := [] } w (.slice (some ⟨n, 0, none⟩) m m) := by
  obtain ⟨dst, op, ty, pos, aft, gd⟩ := o
  unfold trkSlice at h
  split at h
  · cases h
  rename_i hg
  refine ⟨isNone_eq hg, ?_⟩
  simp only at h
  split at h
  · rename_i tt s
    split at h
    · rename_i id' hf
      split at h
      · rename_i b k e hb hu
        split at h
        · rename_i sz hsz
          simp at h
          obtain ⟨rfl, rfl, rfl⟩ := h
          have h2 := (hT.p _ _ _ (findN_mem hf)).2 _ (lookB_mem hb)
          refine ⟨⟨_, _, _, lookB_mem hb, rfl, findN_mem hf⟩, .inl ?_⟩
          have hU := run_underlying' (w := w) hu
          have hS := run_sizeOf' (w := w) hsz
          simp only [execOp, Act.eval, h2]
          simp [Instr.sliceAt, hU, Instr.sureAddr, Instr.sliceBounds, hS, Addr.add]
        · cases h
      · cases h
    · cases h
  · cases h
include hp
theorem still2_ok {o : Oper} {l : Fr} {T : Trk} {w W : World} {tmps : Array Value} {ctx : Option (Nat × Bool)} {K : Fr → Trk → World → Prop} (h : Rel l tmps) (hT : TagOK B T tmps) (hL : LocD z B T w W)
    (hwo : Region.wanted o (yielded ops tmps) = true ↔ Wants tmps ctx) (hg0 : o.guard = none → ctx = none) (hf : still2 E z B o ctx l T w K) :
    ∃ v l' T' w', K l' T' w' ∧ Rel l' (({ tmps, defers := [] } : Act).put o.dst v).tmps ∧ TagOK B T' (({ tmps, defers := [] } : Act).put o.dst v).tmps ∧ LocD z B T' w' W ∧
      ((Region.wanted o (yielded ops tmps) = true ∧ YieldsV E.P o { tmps, defers := [] } W v) ∨ (Region.wanted o (yielded ops tmps) = false ∧ v = undef)) := by
  have hLu : ∀ {T : Trk} {w : World}, LocD z B T w W → LocD z B (T.untag o.dst) w W := fun {T w} hL => ⟨by unfold allB; rw [untag_bs]; exact hL.l, by unfold Trk.untag; split <;> exact hL.d, hL.b0⟩
  unfold still2 at hf
  split at hf
  · rename_i v hl
    obtain ⟨tt, s, hop, hl⟩ : ∃ tt s, o.op = .load tt (.tmp s) ∧ trkLoad E B T s tt = some (some v) := by
      split at hl
      · rename_i tt s hop; exact ⟨tt, s, hop, hl⟩
      · cases hl
    split at hf
    · rename_i hd
      have hW := deadB_ok h 12 ctx hd
      refine ⟨undef, _, _, _, hf, h.fin (ctx := none) (fun _ => rfl) (fun hn => absurd trivial hn), hT.put (.put _ _ _), hLu hL, .inr ⟨?_, rfl⟩⟩
      cases hw : Region.wanted o (yielded ops tmps) with
      | true => exact absurd (hwo.1 hw) hW
      | false => rfl
    · split at hf
      · obtain ⟨b, off, agg, n, cs, h1, h2, h3, h4, rfl⟩ := trkLoad_ok hl hT hL.l
        cases hw : Region.wanted o (yielded ops tmps) with
        | true =>
          have hW := hwo.1 hw
          refine ⟨_, _, _, _, hf, h.fin (fun _ => rfl) (fun hn => absurd hW hn), hT.put (.put _ _ _), hLu hL, .inl ⟨rfl, .inl ?_⟩⟩
          obtain ⟨dst, op, ty, pos, aft, gd⟩ := o
          simp only at hop; subst hop
          have := run_loadAt h2 h3 h4
          simp only [execOp, Act.eval, h1]
          simp [this]
        | false =>
          have hW : ¬ Wants tmps ctx := fun hW => by rw [hwo.2 hW] at hw; cases hw
          exact ⟨undef, _, _, _, hf, h.fin (fun hy => absurd hy hW) (fun _ => rfl), hT.put (.put _ _ _), hLu hL, .inr ⟨rfl, rfl⟩⟩
      · exact hf.elim
  · exact hf.elim
  · split at hf
    · rename_i id n off ha
      obtain ⟨h1, ⟨b, s, o', h2, rfl, h3⟩, h4⟩ := trkAddr_ok (w := W) ha hT
      split at hf
      · rename_i hi
        have hc := hg0 h1
        subst hc
        refine ⟨_, _, _, _, hf, h.fin (ctx := none) (fun _ => rfl) (fun hn => absurd trivial hn), tag_addTg h hi hT h3 (hT.same h3 h2), ?_, .inl ⟨hwo.2 trivial, h4⟩⟩
        unfold addTg
        split
        · exact hL
        · exact ⟨hL.l, hL.d, hL.b0⟩
      · exact hf.elim
    · split at hf
      · rename_i id n m ha
        obtain ⟨h1, ⟨b, s, o', h2, rfl, h3⟩, h4⟩ := trkSlice_ok (w := W) ha hT
        split at hf
        · rename_i hi
          have hc := hg0 h1
          subst hc
          refine ⟨_, _, _, _, hf, h.fin (ctx := none) (fun _ => rfl) (fun hn => absurd trivial hn), tag_addSg h hi hT h3 (hT.same h3 h2), ?_, .inl ⟨hwo.2 trivial, h4⟩⟩
          unfold addSg
          split
          · exact hL
          · exact ⟨hL.l, hL.d, hL.b0⟩
        · exact hf.elim
      · obtain ⟨T', w', hs, hT', hL'⟩ := dropF_ok hf hT hL
        obtain ⟨v, l', h1, h2, h3⟩ := still_ok0 hp h hwo hs
        refine ⟨v, l', _, _, h1, h2, hT'.put (.put _ _ _), hLu hL', ?_⟩
        rcases h3 with ⟨hw, hy⟩ | hw
        · exact .inl ⟨hw, hy W (fun φ hφ => syncF_use hφ hL')⟩
        · exact .inr hw
omit hp in
theorem ctx_guard {o : Oper} {ctx : Option (Nat × Bool)} (hc : ctxOf ops o = some ctx) (hg : o.guard = none) : ctx = none := by
  unfold ctxOf at hc
  rw [hg] at hc
  simp at hc; exact hc.symm
theorem stillOps2_ok {W : World} {K : Fr → Trk → World → Prop} {Q : Act → Prop} : ∀ (r : List Oper) (l : Fr) (T : Trk) (w : World) (tmps : Array Value), Rel l tmps → TagOK B T tmps → LocD z B T w W → stillOps2 E z B ops K r l T w →
    (∀ l' tmps' T' w', Rel l' tmps' → Same (r.filterMap (·.dst)) tmps tmps' → TagOK B T' tmps' → LocD z B T' w' W → K l' T' w' → Q { tmps := tmps', defers := [] }) → wpStill E.P ops W Q r { tmps, defers := [] }
  | [], l, T, w, tmps, h, hT, hL, hf, hQ => hQ l tmps T w h (.refl _ _) hT hL hf
  | o :: r, l, T, w, tmps, h, hT, hL, hf, hQ => by
    simp only [stillOps2] at hf
    cases hc : ctxOf ops o with
    | none => rw [hc] at hf; exact hf.elim
    | some ctx =>
      rw [hc] at hf
      simp only at hf
      obtain ⟨v, l', T', w', h1, h2, hT', hL', h3⟩ := still2_ok hp h hT hL (wanted_ok (tmps := tmps) hc) (ctx_guard hc) hf
      have next : wpStill E.P ops W Q r (({ tmps, defers := [] } : Act).put o.dst v) := by
        rw [put_act]
        refine stillOps2_ok r l' T' w' _ h2 hT' hL' h1 (fun l'' t'' T'' w'' hr hs hT2 hL2 hk => hQ l'' t'' T'' w'' hr ?_ hT2 hL2 hk)
        have := (Same.put tmps o.dst v).trans hs
        refine this.mono fun i hi => ?_
        rcases List.mem_append.1 hi with hi | hi
        · cases hd : o.dst with
          | none => simp [hd] at hi
          | some d => simp [hd] at hi; simp [hd, hi]
        · cases hd : o.dst with
          | none => simpa [hd] using hi
          | some d => simp only [List.filterMap_cons, hd, List.mem_cons]; exact .inr hi
      unfold wpStill
      rcases h3 with ⟨hw, hy⟩ | ⟨hw, rfl⟩
      · rw [if_pos hw]
        unfold Oper.still
        rcases hy with hy | ⟨_, f, args, hy, hcall⟩
        · rw [hy]; exact ⟨rfl, next⟩
        · rw [hy]; exact ⟨rfl, v, hcall, next⟩
      · rw [if_neg (by simp [hw])]
        exact next
end

end Go.Proofs.YtkkfnlehlkiejaaGreatDoor

/- The symbolic evaluator, ninth part: soundness of the sixth, effects. Generic: no program, no condition. -/
namespace Go.Proofs.YtkkfnlehlkiejaaGreatDoor
open Go.RowKit

theorem putL_repl : ∀ (vs c : List Value) (o : Nat), o + vs.length ≤ c.length → putL c o vs = repl c o vs.length vs
  | [], c, o, _ => by simp [putL, repl]
  | v :: r, c, o, h => by
    have hl : o < c.length := by simp at h; omega
    simp only [putL]
    rw [putL_repl r (c.set o v) (o + 1) (by simp at h ⊢; omega)]
    unfold repl
    rw [List.set_eq_take_append_cons_drop, if_pos hl]
    have e1 : (c.take o).length = o := by rw [List.length_take]; omega
    rw [show c.take o ++ v :: c.drop (o + 1) = (c.take o ++ [v]) ++ c.drop (o + 1) by simp]
    rw [List.take_append_of_le_length (by simp; omega), List.take_of_length_le (by simp; omega)]
    rw [List.drop_append]
    have e2 : (c.take o ++ [v]).length = o + 1 := by simp [e1]
    rw [List.drop_eq_nil_of_le (by omega), e2, List.drop_drop]
    simp only [List.length_cons, List.append_assoc, List.cons_append, List.nil_append]
    rw [show o + 1 + (o + 1 + r.length - (o + 1)) = o + (r.length + 1) by omega]
theorem WrF_at {w : World} {b o n : Nat} {c : Array Value} {t : TypeId} (h : w.heap[b]? = some (.cells c t (0, 0))) (hn : o + n ≤ c.size) : WrF w b o n := by
  match n, hn with
  | 0, _ => trivial
  | 1, hn =>
    refine ⟨⟨c[o], ?_⟩, frozen_block h _⟩
    rw [cell_block h]
    simp
  | n + 2, hn => exact WrL_block h hn
theorem setB_mem {id : Nat} {cs : List Value} : ∀ {l : Bs} {x : Nat × Blk}, x ∈ setB id cs l → ∃ y ∈ l, y.1 = x.1 ∧ y.2.n = x.2.n
  | [], x, h => by simp [setB] at h
  | y :: r, x, h => by
    simp only [setB] at h
    cases hj : y.1 == id with
    | true =>
      rw [hj] at h
      rcases List.mem_cons.1 h with h | h
      · subst h; exact ⟨y, List.mem_cons_self, rfl, rfl⟩
      · exact ⟨x, List.mem_cons_of_mem _ h, rfl, rfl⟩
    | false =>
      rw [hj] at h
      rcases List.mem_cons.1 h with h | h
      · subst h; exact ⟨x, List.mem_cons_self, rfl, rfl⟩
      · obtain ⟨y', h1, h2⟩ := setB_mem h
        exact ⟨y', List.mem_cons_of_mem _ h1, h2⟩
/-- One block of the list is written. -/
theorem setB_split {id : Nat} {cs : List Value} : ∀ {l : Bs} {b : Blk}, findN id l = some b → ∃ l1 l2, l = l1 ++ (id, b) :: l2 ∧ setB id cs l = l1 ++ (id, ⟨b.n, b.t, cs, wrM b.m⟩) :: l2
  | [], b, h => by simp [findN] at h
  | (j, y) :: r, b, h => by
    simp only [findN] at h
    cases hj : id == j with
    | true =>
      have e : id = j := by simpa using hj
      subst e
      rw [hj] at h
      simp at h; subst h
      exact ⟨[], r, rfl, by simp [setB]⟩
    | false =>
      rw [hj] at h
      obtain ⟨l1, l2, h1, h2⟩ := setB_split (cs := cs) h
      have hj' : (j == id) = false := by
        cases hx : j == id with
        | false => rfl
        | true => have : j = id := by simpa using hx
                  subst this; simp at hj
      refine ⟨(j, y) :: l1, l2, by rw [h1]; rfl, ?_⟩
      simp only [setB, hj', h2]
      rfl
theorem loc_store {z : Nat} {T T' : List Blk} {l1 l2 : List Blk} {b : Blk} {cs : List Value} {w W w1 : World} (h : Loc z T w W) (e : T = l1 ++ b :: l2) (e' : T' = l1 ++ ⟨b.n, b.t, cs, wrM b.m⟩ :: l2) (hk : Kp (· = b.n) W w1) (hb : w1.heap[b.n]? = some (.cells cs.toArray b.t (0, 0))) : Loc z T' w w1 := by
  subst e; subst e'
  generalize hm : wrM b.m = m
  unfold wrM at hm
  have hnd := h.ne
  rw [List.map_append, List.map_cons] at hnd
  have hne : ∀ x ∈ l1 ++ l2, x.n ≠ b.n := fun x hx => by
    have hp : (l1.map (·.n) ++ b.n :: l2.map (·.n)).Perm (b.n :: (l1.map (·.n) ++ l2.map (·.n))) := List.perm_middle
    have := hp.nodup_iff.1 hnd
    intro e
    refine (List.nodup_cons.1 this).1 ?_
    rw [← List.map_append, ← e]
    exact List.mem_map.2 ⟨x, hx, rfl⟩
  have mem : ∀ {x : Blk} {y : Blk}, x ∈ l1 ++ y :: l2 → x ∈ l1 ++ l2 ∨ x = y := fun {x y} hx => by
    rcases List.mem_append.1 hx with h1 | h1
    · exact .inl (List.mem_append.2 (.inl h1))
    · rcases List.mem_cons.1 h1 with h1 | h1
      · exact .inr h1
      · exact .inl (List.mem_append.2 (.inr h1))
  have mem' : ∀ {x y : Blk}, x ∈ l1 ++ l2 → x ∈ l1 ++ y :: l2 := fun {x y} hx => by
    rcases List.mem_append.1 hx with h1 | h1
    · exact List.mem_append.2 (.inl h1)
    · exact List.mem_append.2 (.inr (List.mem_cons_of_mem _ h1))
  have self : ∀ {y : Blk}, y ∈ l1 ++ y :: l2 := List.mem_append.2 (.inr List.mem_cons_self)
  refine ⟨⟨hk.os.trans h.kp.os, hk.tape.trans h.kp.tape, hk.output.trans h.kp.output, Nat.le_trans h.kp.size hk.size, fun k hlt hn => ?_⟩, fun x hx => ?_, fun x hx => ?_, ?_, fun x hx h2 => ?_, h.hz⟩
  · by_cases hkb : k = b.n
    · exfalso
      cases hb2 : b.m == 2 with
      | true =>
        have hb2 : b.m = 2 := by simpa using hb2
        have := h.nw b self hb2
        omega
      | false =>
        rw [hb2] at hm
        simp at hm
        exact hn ⟨_, self, hm.symm, hkb.symm⟩
    · rw [hk.block k (Nat.lt_of_lt_of_le hlt h.kp.size) hkb]
      refine h.kp.block k hlt (fun ⟨x, hx, h1, h2⟩ => ?_)
      rcases mem hx with hx | hx
      · exact hn ⟨x, mem' hx, h1, h2⟩
      · subst hx; exact hkb h2.symm
  · rcases mem hx with hx | hx
    · exact hk.blk (h.blk x (mem' hx)) (hne x hx)
    · subst hx; exact hb
  · rcases mem hx with hx | hx
    · exact h.ge x (mem' hx)
    · subst hx; exact h.ge b self
  · rw [List.map_append, List.map_cons]; exact hnd
  · rcases mem hx with hx | hx
    · exact h.nw x (mem' hx) h2
    · subst hx
      simp only at h2
      subst h2
      cases hb2 : b.m == 2 with
      | true => exact h.nw b self (by simpa using hb2)
      | false => rw [hb2] at hm; simp at hm
theorem loc_new {z : Nat} {T : List Blk} {w W : World} (h : Loc z T w W) (t : TypeId) (cs : Array Value) : Loc z (⟨W.heap.size, t, cs.toList, 2⟩ :: T) w (W.alloc (.cells cs t)) := by
  have hn : NewB W (.cells cs t) W.heap.size (W.alloc (.cells cs t)) := ⟨rfl, rfl⟩
  have hk := hn.kp (fun _ => False)
  refine ⟨(h.kp.mono (fun i _ ⟨x, hx, e⟩ => ⟨x, List.mem_cons_of_mem _ hx, e⟩)).trans (hk.mono (fun _ _ h => h.elim)), fun x hx => ?_, fun x hx => ?_, ?_, fun x hx h2 => ?_, h.hz⟩
  · rcases List.mem_cons.1 hx with h1 | h1
    · subst h1; simpa using hn.block
    · exact hk.blk (h.blk x h1) (fun h => h)
  · rcases List.mem_cons.1 hx with h1 | h1
    · subst h1; exact Nat.le_trans h.hz h.kp.size
    · exact h.ge x h1
  · rw [List.map_cons]
    refine List.nodup_cons.2 ⟨fun hx => ?_, h.ne⟩
    obtain ⟨x, hx, e⟩ := List.mem_map.1 hx
    have := block_lt (h.blk x hx)
    simp only at e
    omega
  · rcases List.mem_cons.1 hx with h1 | h1
    · subst h1; exact h.kp.size
    · exact h.nw x h1 h2
/-- A new block in mind. -/
theorem tag_new {B : Bs} {T : Trk} {t t' : Array Value} {dst : Option Nat} {b : Blk} (hS : Same dst.toList t t') (h : TagOK B T t) : TagOK B ⟨(T.nx, b) :: (T.untag dst).bs, (T.untag dst).tg, (T.untag dst).sg, T.nx + 1, true⟩ t' := by
  have h0 := h.put hS
  have hn : (T.untag dst).nx = T.nx := by unfold Trk.untag; split <;> rfl
  have mem : ∀ (i : Nat) (b' : Blk), i < T.nx → (i, b') ∈ B ++ (T.nx, b) :: (T.untag dst).bs → (i, b') ∈ B ++ (T.untag dst).bs := fun i b' hi hb' => by
    rcases List.mem_append.1 hb' with hb' | hb'
    · exact List.mem_append.2 (.inl hb')
    · rcases List.mem_cons.1 hb' with hb' | hb'
      · cases hb'; omega
      · exact List.mem_append.2 (.inr hb')
  refine ⟨fun s i o hx => ?_, fun s i hx => ?_, fun x hx => ?_⟩
  · obtain ⟨h1, h2⟩ := h0.p s i o hx
    rw [hn] at h1
    exact ⟨by show i < T.nx + 1; omega, fun b' hb' => h2 b' (mem i b' h1 hb')⟩
  · obtain ⟨h1, h2⟩ := h0.s s i hx
    rw [hn] at h1
    exact ⟨by show i < T.nx + 1; omega, fun b' hb' => h2 b' (mem i b' h1 hb')⟩
  · show x.1 < T.nx + 1
    have key : x ∈ B ++ (T.untag dst).bs → x.1 < T.nx + 1 := fun hx => by have := h0.lt x hx; omega
    rcases List.mem_append.1 hx with hx | hx
    · exact key (List.mem_append.2 (.inl hx))
    · rcases List.mem_cons.1 hx with hx | hx
      · subst hx; show T.nx < T.nx + 1; omega
      · exact key (List.mem_append.2 (.inr hx))
theorem new_one {B : Bs} {T : Trk} {dst : Option Nat} {t : Array Value} (h : TagOK B T t) {b b' : Blk} (hb : (T.nx, b') ∈ B ++ (T.nx, b) :: (T.untag dst).bs) : b' = b := by
  have no : ∀ x ∈ B ++ T.bs, x.1 = T.nx → False := fun x hx e => by have := h.lt x hx; omega
  rcases List.mem_append.1 hb with hb | hb
  · exact (no _ (List.mem_append.2 (.inl hb)) rfl).elim
  · rcases List.mem_cons.1 hb with hb | hb
    · cases hb; rfl
    · rw [untag_bs] at hb
      exact (no _ (List.mem_append.2 (.inr hb)) rfl).elim
theorem tag_add {B : Bs} {T : Trk} {t : Array Value} {l : Fr} {dst : Option Nat} {b : Blk} (hR : Rel l t) (hi : inB dst l = true) (h : TagOK B T t) : TagOK B (T.add b dst) (({ tmps := t, defers := [] } : Act).put dst (.pointer (some ⟨b.n, 0, none⟩))).tmps := by
  have base := tag_new (b := b) (Same.put t dst (.pointer (some ⟨b.n, 0, none⟩))) h
  cases dst with
  | none => exact base
  | some d =>
    refine ⟨fun s i o hx => ?_, fun s i hx => base.s s i hx, base.lt⟩
    rcases List.mem_cons.1 hx with hx | hx
    · cases hx
      refine ⟨by show T.nx < T.nx + 1; omega, fun b' hb' => ?_⟩
      rw [inB_get hR hi, new_one (dst := some d) h hb']
    · exact base.p s i o hx
theorem tag_addS {B : Bs} {T : Trk} {t : Array Value} {l : Fr} {dst : Option Nat} {b : Blk} {m : Nat} (hR : Rel l t) (hi : inB dst l = true) (h : TagOK B T t) : TagOK B (T.addS b dst) (({ tmps := t, defers := [] } : Act).put dst (.slice (some ⟨b.n, 0, none⟩) m m)).tmps := by
  have base := tag_new (b := b) (Same.put t dst (.slice (some ⟨b.n, 0, none⟩) m m)) h
  cases dst with
  | none => exact base
  | some d =>
    refine ⟨fun s i o hx => base.p s i o hx, fun s i hx => ?_, base.lt⟩
    rcases List.mem_cons.1 hx with hx | hx
    · cases hx
      refine ⟨by show T.nx < T.nx + 1; omega, fun b' hb' => ⟨m, m, ?_⟩⟩
      rw [inB_get hR hi, new_one (dst := some d) h hb']
    · exact base.s s i hx
/-! ### New blocks -/
theorem run_alloc2 {P : Program} {w : World} {t : TypeId} {v : Value} (h : Sem.ev P (zeroValue t) = some v) : (Instr.alloc t true (.tuple #[])).run P w = .ok (.pointer (some ⟨w.heap.size, 0, none⟩)) (w.alloc (.cells v.cells t)) := by
  have hz := ev_run h w
  simp [Instr.alloc, hz, newVar, newRow, newObj, Sem.run]
theorem run_box2 {P : Program} {w : World} {t : TypeId} {v : Value} : (Instr.box t v).run P w = .ok (.pointer (some ⟨w.heap.size, 0, none⟩)) (w.alloc (.cells v.cells t)) := by
  simp [Instr.box, newVar, newRow, newObj, Sem.run]
theorem bind_assoc2 {α β γ : Type} (s : Sem α) (f : α → Sem β) (g : β → Sem γ) : (s.bind f).bind g = s.bind fun a => (f a).bind g := by
  induction s with
  | pure a => rfl
  | halt h => rfl
  | mark m k ih => simp only [Sem.bind, ih]
  | _ => first | (simp only [Sem.bind]; congr 1; funext x; rename_i ih; exact ih x) | (simp only [Sem.bind]; rename_i ih; rw [ih]) | (simp only [Sem.bind]; congr 1; funext x y; rename_i ih; exact ih x y)
theorem buildSlice_eq (t : TypeId) (len : Nat) (parts : Array (Nat × Value)) : Instr.buildSlice t len parts = Sem.bind (rowS2 t len parts) fun x => Sem.bind (newRow x.1 x.2) fun a => Sem.pure (.slice (some a) len len) := by
  unfold Instr.buildSlice rowS2
  simp only [bind, pure]
  rw [bind_assoc2]
  congr 1; funext d
  cases d with
  | slice e =>
    simp only
    rw [bind_assoc2]
    congr 1; funext size
    split
    · rfl
    · simp only [Sem.bind]
      have key : ∀ r : Option (Array Value), (match r with | some cells => (newRow e cells).bind fun a => Sem.pure (Value.slice (some a) len len) | _ => stuck "buildSlice: a part of the wrong size") = (match r with | some cells => Sem.pure (e, cells) | _ => stuck "buildSlice: a part of the wrong size").bind fun x => (newRow x.1 x.2).bind fun a => Sem.pure (Value.slice (some a) len len) := fun r => by cases r <;> rfl
      split
      · exact key _
      · rw [bind_assoc2]
        congr 1; funext zero
        exact key _
  | _ => rfl
theorem run_slice2 {P : Program} {w : World} {t : TypeId} {len : Nat} {parts : Array (Nat × Value)} {e : TypeId} {cells : Array Value} (h : Sem.ev P (rowS2 t len parts) = some (e, cells)) : (Instr.buildSlice t len parts).run P w = .ok (.slice (some ⟨w.heap.size, 0, none⟩) len len) (w.alloc (.cells cells e)) := by
  have hr := ev_run h w
  rw [buildSlice_eq]
  show (rowS2 t len parts >>= _).run P w = _
  rw [Sem.run_bind, hr]
  simp [newRow, newObj, Sem.run, Sem.bind, bind, pure]

section
variable {E : Env} (hp : PurOK E) {ops : Array Oper} {z : Nat} {B : Bs}
theorem trkStore_ok {T T' : Trk} {l : Fr} {o : Oper} {t : Array Value} {w W : World} (hs : trkStore E T l o.op = some (some T')) (h : Rel l t) (hT : TagOK B T t) (hL : LocD z B T w W) :
    ∃ W', (execOp ({ tmps := t, defers := [] } : Act).eval o).run E.P W = .ok .skip W' ∧ TagOK B T' t ∧ LocD z B T' w W' := by
  obtain ⟨dst, op, ty, pos, aft, gd⟩ := o
  unfold trkStore at hs
  simp only at hs
  split at hs
  · rename_i tt s v
    split at hs
    · rename_i id off hid
      split at hs
      · rename_i b hb
        split at hs
        · rename_i y n hv hsz
          split at hs
          · rename_i hc
            simp only [Bool.and_eq_true] at hc
            obtain ⟨h1, h2, h3⟩ := hc
            simp at hs; subst hs
            have hm : (id, b) ∈ B ++ T.bs := List.mem_append.2 (.inr (findN_mem hb))
            have hx := (hT.p s id off (findN_mem hid)).2 b hm
            have ey := rd_ok (ds := []) h (fun _ _ hm => by simp at hm) hv
            have hbk := hL.l.blk b (mem_blks.2 ⟨id, hm⟩)
            have hn : y.cells.size = n := by simpa using h1
            have hle : off + n ≤ b.cs.length := by simpa using Nat.le_of_ble_eq_true h3
            have hS : storeF E tt (.pointer (some ⟨b.n, off, none⟩)) y W (fun w1 => PutB W b.n off y.cells.toList w1) := by
              unfold storeF
              rw [hsz, h2]
              simp only [h1]
              exact ⟨WrF_at hbk (by simpa using hle), fun w1 h => h⟩
            obtain ⟨W', hr, hput⟩ := storeF_ok hS
            refine ⟨W', ?_, ?_, ?_⟩
            · have hx' : ({ tmps := t, defers := [] } : Act).eval (.tmp s) = .pointer (some ⟨b.n, off, none⟩) := hx
              simp only [execOp, hx', ey]
              simp [hr]
            · refine hT.of (fun x hx => ⟨hx, rfl⟩) (fun x hx => ⟨hx, rfl⟩) (fun x hx => ?_) (Nat.le_refl _)
              rcases List.mem_append.1 hx with hx | hx
              · exact ⟨x, List.mem_append.2 (.inl hx), rfl, rfl⟩
              · obtain ⟨y, h1, h2⟩ := setB_mem hx
                exact ⟨y, List.mem_append.2 (.inr h1), h2⟩
            · obtain ⟨l1, l2, e1, e2⟩ := setB_split (cs := repl b.cs off n y.cells.toList) hb
              refine ⟨?_, (fun h => by cases h), hL.b0⟩
              refine loc_store (l1 := blksOf (B ++ l1)) (l2 := blksOf l2) (b := b) (cs := repl b.cs off n y.cells.toList) hL.l ?_ ?_ hput.kp ?_
              · unfold allB; rw [e1]; simp [blksOf_eq]
              · unfold allB; rw [e2]; simp [blksOf_eq]
              · have := hput.block hbk
                rw [this]
                rw [show (b.cs.toArray).toList = b.cs by simp, putL_repl _ _ _ (by simpa [hn] using hle)]
                simp [hn]
          · cases hs
        · cases hs
      · cases hs
    · cases hs
  · cases hs
end

end Go.Proofs.YtkkfnlehlkiejaaGreatDoor

/- The symbolic evaluator, tenth part: from a formula with own blocks to the contract. Generic: no program, no condition. -/
namespace Go.Proofs.YtkkfnlehlkiejaaGreatDoor
open Go.RowKit

theorem loc_add {z : Nat} {B l : Bs} {i : Nat} {b : Blk} {w W : World} (h : Loc z (b :: blksOf (B ++ l)) w W) : Loc z (blksOf (B ++ (i, b) :: l)) w W := by
  refine h.perm ?_
  rw [blksOf_eq, blksOf_eq]
  simp only [List.map_append, List.map_cons]
  exact List.perm_middle.symm
theorem add_bs (T : Trk) (b : Blk) (dst : Option Nat) : (T.add b dst).bs = (T.nx, b) :: T.bs := by unfold Trk.add; split <;> rfl
theorem addS_bs (T : Trk) (b : Blk) (dst : Option Nat) : (T.addS b dst).bs = (T.nx, b) :: T.bs := by unfold Trk.addS; split <;> rfl
theorem trkApp_ok {E : Env} {B : Bs} {T : Trk} {l : Fr} {o : Oper} {t : Array Value} {z : Nat} {w W : World} {e : TypeId} {x : Operand} {p : Option Addr} {n c m id : Nat} {news : List Value} (ha : trkApp E B T l o.op = some (e, x, p, n, c, news, m, id)) (h : Rel l t) (hT : TagOK B T t) (hL : LocD z B T w W)
    {K : Fr → Trk → World → Prop} (hf : app2F E z B o l T w e p n c news m id K) : seqF0 E o none l W fun l' w' => keptF (numsOf (B ++ ((T.drop [id]).untag o.dst).bs)) W w' (K l' ((T.drop [id]).untag o.dst) w') := by
  obtain ⟨dst, op, ty, pos, aft, gd⟩ := o
  unfold trkApp at ha
  simp only at ha
  split at ha
  · rename_i args argTypes
    split at ha
    · rename_i x' s tt tt' hargs htys
      split at ha
      · rename_i id' htt hid
        split at ha
        · rename_i b p' n' c' q m' c2 e' hb hx hy hu
          split at ha
          · rename_i i hi
            split at ha
            · rename_i zv hz
              split at ha
              · rename_i hcond
                simp at ha
                obtain ⟨rfl, rfl, rfl, rfl, rfl, rfl, rfl, rfl⟩ := ha
                simp only [Bool.and_eq_true, beq_iff_eq] at hcond
                obtain ⟨h1, h2, h3, h4⟩ := hcond
                obtain ⟨base, xs, ho, hle, hby, hbase, hk⟩ := syncF_use hf hL
                have hm := lookB_mem hb
                have hbk := hL.l.blk b (mem_blks.2 ⟨id', hm⟩)
                obtain ⟨m2, c3, hq⟩ := (hT.s s id' (findN_mem hid)).2 b hm
                have ey : t.getD s undef = .slice q m' c2 := rd_ok (ds := []) h (fun _ _ hm => by simp at hm) hy
                rw [hq] at ey
                simp only [Value.slice.injEq] at ey
                obtain ⟨rfl, rfl, rfl⟩ := ey
                have hsz : szB E.P e' = (i.size, i.bytes) := by unfold szB; rw [hi]
                rw [hsz] at ho hby
                unfold seqF0
                simp only [hargs, htys, htt]
                unfold appendO
                rw [hx, hy]
                simp only [hu, hi, hz, h1, h2, beq_self_eq_true, Bool.true_and]
                refine ⟨base, xs, b.cs, ho, h3, ?_, hle, hby, hbase, fun p' c' w' ho' hg hr => ?_⟩
                · have := src_block hbk (fun u hu => by
                    have := List.all_eq_true.1 h4 u (by simpa using hu)
                    exact this)
                  simpa using this
                · have := hk p' c' w' (by rw [hsz]; exact ho') hg hr
                  exact this
              · cases ha
            · cases ha
          · cases ha
        · cases ha
      · cases ha
    · cases ha
  · cases ha

section
variable {E : Env} (hp : PurOK E) {ops : Array Oper} {z : Nat} {B : Bs} include hp
theorem seqF2_ok {o : Oper} {l : Fr} {T : Trk} {w W : World} {tmps : Array Value} {K : Fr → Trk → World → Prop} {N : Act → World → Prop} {Q : Exit → Act → World → Prop} (h : Rel l tmps) (hT : TagOK B T tmps) (hL : LocD z B T w W) (hf : seqF2 E z B ops o l T w K)
    (hK : ∀ l' tmps' T' w' W', Rel l' tmps' → Same o.dst.toList tmps tmps' → TagOK B T' tmps' → LocD z B T' w' W' → K l' T' w' → N { tmps := tmps', defers := [] } W') : stepG' E.P ops o { tmps, defers := [] } W N Q := by
  have hLu : ∀ {T : Trk} {w W : World}, LocD z B T w W → LocD z B (T.untag o.dst) w W := fun {T w W} hL => ⟨by unfold allB; rw [untag_bs]; exact hL.l, by unfold Trk.untag; split <;> exact hL.d, hL.b0⟩
  unfold seqF2 at hf
  cases hc : ctxOf ops o with
  | none => rw [hc] at hf; exact hf.elim
  | some ctx =>
    rw [hc] at hf
    simp only at hf
    have hwo := wanted_ok (tmps := tmps) hc
    have yes : ∀ {l' : Fr}, Rel l' tmps → Chain tmps (chain l 12 ctx).reverse → Region.wanted o (yielded ops tmps) = true := fun {l'} _ h3 => hwo.2 (by
      cases ctx with
      | none => trivial
      | some jw => exact h3 jw.1 jw.2 (by simp [chain]))
    have no : ∀ {l' : Fr}, Rel l' tmps → ¬ Chain tmps (chain l 12 ctx).reverse → K (putF l' o.dst (.v undef)) (T.untag o.dst) w → stepG' E.P ops o { tmps, defers := [] } W N Q := fun {l'} h1 h3 h2 => by
      have hW : ¬ Wants tmps ctx := fun hW => h3 fun i b hm => chain_ok h 12 ctx hW i b (by simpa using hm)
      have hw : Region.wanted o (yielded ops tmps) = false := by
        cases hw : Region.wanted o (yielded ops tmps) with
        | true => exact absurd (hwo.1 hw) hW
        | false => rfl
      unfold stepG'
      rw [if_neg (by simp [hw]), put_act]
      exact hK _ _ _ _ _ (h1.fin (ctx := none) (fun _ => rfl) (fun hn => absurd trivial hn)) (.put tmps o.dst _) (hT.put (.put _ _ _)) (hLu hL) h2
    have val : ∀ {l' : Fr} {v : Value} {T' : Trk} {w' W' : World}, Rel l' tmps → Region.wanted o (yielded ops tmps) = true → (execOp ({ tmps, defers := [] } : Act).eval o).run E.P W = .ok (.value v) W' → TagOK B T' (({ tmps, defers := [] } : Act).put o.dst v).tmps → LocD z B T' w' W' → K (putF l' o.dst (.v v)) T' w' → stepG' E.P ops o { tmps, defers := [] } W N Q := by
      intro l' v T' w' W' h1 hw hrun hT' hL' hk
      unfold stepG'
      rw [if_pos hw]
      refine .inl ?_
      unfold Oper.wp
      rw [hrun]
      show N (({ tmps, defers := [] } : Act).put o.dst v) W'
      rw [put_act]
      exact hK _ _ _ _ _ (h1.fin (ctx := none) (fun _ => rfl) (fun hn => absurd trivial hn)) (.put tmps o.dst v) hT' hL' hk
    split at hf
    · rename_i hnew
      rcases splitG_ok _ l h hf with ⟨l', h1, h2, h3⟩ | ⟨l', h1, h2, h3⟩
      · have hw := yes h1 h3
        split at h2
        · rename_i hi
          obtain ⟨T1, w1, h4, hT1, hL1⟩ := dropF_ok h2 hT hL
          unfold new2 at h4
          split at h4
          · rename_i t hop
            split at h4
            · rename_i v hv
              have hrun : (execOp ({ tmps, defers := [] } : Act).eval o).run E.P W = .ok (.value (.pointer (some ⟨W.heap.size, 0, none⟩))) (W.alloc (.cells v.cells t)) := by
                have := run_alloc2 (w := W) hv
                unfold execOp
                rw [hop]
                simp [this]
              refine val h1 hw hrun (tag_add (b := ⟨W.heap.size, t, v.cells.toList, 2⟩) h1 hi hT1) ?_ (h4 W.heap.size)
              refine ⟨?_, by unfold Trk.add; split <;> exact (fun h => by cases h), hL1.b0⟩
              unfold allB; rw [add_bs]
              exact loc_add (loc_new hL1.l t v.cells)
            · exact h4.elim
          · rename_i t x hop
            split at h4
            · rename_i v hv
              have ev := rd_ok (ds := []) h1 (fun _ _ hm => by simp at hm) hv
              have hrun : (execOp ({ tmps, defers := [] } : Act).eval o).run E.P W = .ok (.value (.pointer (some ⟨W.heap.size, 0, none⟩))) (W.alloc (.cells v.cells t)) := by
                have := run_box2 (P := E.P) (w := W) (t := t) (v := v)
                unfold execOp
                rw [hop]
                simp only [ev]
                simp [this]
              refine val h1 hw hrun (tag_add (b := ⟨W.heap.size, t, v.cells.toList, 2⟩) h1 hi hT1) ?_ (h4 W.heap.size)
              refine ⟨?_, by unfold Trk.add; split <;> exact (fun h => by cases h), hL1.b0⟩
              unfold allB; rw [add_bs]
              exact loc_add (loc_new hL1.l t v.cells)
            · exact h4.elim
          · rename_i t len parts hop
            split at h4
            · rename_i e cells ha hrow
              have hrun : (execOp ({ tmps, defers := [] } : Act).eval o).run E.P W = .ok (.value (.slice (some ⟨W.heap.size, 0, none⟩) len len)) (W.alloc (.cells cells e)) := by
                have hcg : execOp ({ tmps, defers := [] } : Act).eval o = execOp (rdV l' []) o := execOp_congr o (by simp [hop]) (fun x hx => by
                  unfold allRd at ha
                  exact rdV_ok h1 (fun _ _ hm => by simp at hm) (List.all_eq_true.1 ha x (by simpa using hx)))
                have := run_slice2 (w := W) hrow
                rw [hcg]
                unfold execOp
                rw [hop]
                simp [this]
              refine val h1 hw hrun (tag_addS (b := ⟨W.heap.size, e, cells.toList, 2⟩) h1 hi hT1) ?_ (h4 W.heap.size)
              refine ⟨?_, by unfold Trk.addS; split <;> exact (fun h => by cases h), hL1.b0⟩
              unfold allB; rw [addS_bs]
              exact loc_add (loc_new hL1.l e cells)
            · exact h4.elim
          · exact h4.elim
        · exact h2.elim
      · exact no h1 h3 h2
    · split at hf
      · rcases splitG_ok _ l h hf with ⟨l', h1, h2, h3⟩ | ⟨l', h1, h2, h3⟩
        · have hw := yes h1 h3
          split at h2
          · rename_i T' hst
            obtain ⟨W', hrun, hT', hL'⟩ := trkStore_ok hst h1 hT hL
            obtain ⟨T1, w1, h4, hT1, hL1⟩ := dropF_ok h2 hT' hL'
            unfold stepG'
            rw [if_pos hw]
            refine .inl ?_
            unfold Oper.wp
            rw [hrun]
            show N (({ tmps, defers := [] } : Act).put o.dst undef) W'
            rw [put_act]
            exact hK _ _ _ _ _ (h1.fin (ctx := none) (fun _ => rfl) (fun hn => absurd trivial hn)) (.put tmps o.dst _) (hT1.put (.put _ _ _)) (hLu hL1) h4
          · exact h2.elim
        · exact no h1 h3 h2
      · split at hf
        · rename_i hcn happ
          have hcn := isNone_eq hcn
          subst hcn
          refine seqF0_ok hp (ctx := none) hwo h (trkApp_ok happ h hT hL hf) (fun l' t' w' hr hs hk => ?_)
          obtain ⟨hsz, hkp, hk⟩ := keptF_ok hk
          refine hK l' t' _ w' w' hr hs ((hT.drop _).put hs) (hL.eff (by rw [untag_bs]; rfl) hsz hkp) hk
        · split at hf
          · obtain ⟨v, l', T', w', h1, h2, hT', hL', h3⟩ := still2_ok hp h hT hL hwo (ctx_guard hc) hf
            have next : N (({ tmps, defers := [] } : Act).put o.dst v) W := by
              rw [put_act]; exact hK l' _ T' w' W h2 (.put tmps o.dst v) hT' hL' h1
            unfold stepG'
            rcases h3 with ⟨hw, hy⟩ | ⟨hw, rfl⟩
            · rw [if_pos hw]
              refine .inl ?_
              unfold Oper.wp
              rcases hy with hy | ⟨_, f, args, hy, hcall⟩
              · rw [hy]; exact next
              · rw [hy]
                exact hcall.mono fun e w' ⟨he, hw'⟩ => by subst he; subst hw'; exact next
            · rw [if_neg (by simp [hw])]
              exact next
          · refine seqF_ok hp h (syncF_use hf hL) (fun l' t' w' hr hs hk => ?_)
            obtain ⟨hsz, hkp, hk⟩ := keptF_ok hk
            refine hK l' t' _ w' w' hr hs ((hT.drop _).put hs) (hL.eff (by rw [untag_bs]; rfl) hsz hkp) hk
theorem seqOps2_ok {K : Fr → Trk → World → Prop} {Q : Exit → Act → World → Prop} : ∀ (r : List Oper) (l : Fr) (T : Trk) (w W : World) (tmps : Array Value), Rel l tmps → TagOK B T tmps → LocD z B T w W → seqOps2 E z B ops K r l T w →
    (∀ l' tmps' T' w' W', Rel l' tmps' → Same (r.filterMap (·.dst)) tmps tmps' → TagOK B T' tmps' → LocD z B T' w' W' → K l' T' w' → Q .normal { tmps := tmps', defers := [] } W') → wpList E.P ops Q r { tmps, defers := [] } W
  | [], l, T, w, W, tmps, h, hT, hL, hf, hQ => hQ l tmps T w W h (.refl _ _) hT hL hf
  | o :: r, l, T, w, W, tmps, h, hT, hL, hf, hQ => by
    show stepG' E.P ops o { tmps, defers := [] } W (wpList E.P ops Q r) Q
    refine seqF2_ok hp h hT hL hf (fun l' tmps' T' w' W' hr hs hT' hL' hk => seqOps2_ok r l' T' w' W' tmps' hr hT' hL' hk (fun l'' t'' T'' w'' W'' hr' hs' hT2 hL2 hk' => hQ l'' t'' T'' w'' W'' hr' ?_ hT2 hL2 hk'))
    refine (hs.trans hs').mono fun i hi => ?_
    rcases List.mem_append.1 hi with hi | hi
    · cases hd : o.dst with
      | none => simp [hd] at hi
      | some d => simp [hd] at hi; simp [hd, hi]
    · cases hd : o.dst with
      | none => simpa [hd] using hi
      | some d => simp only [List.filterMap_cons, hd, List.mem_cons]; exact .inr hi
omit hp in
theorem tag_untags {T : Trk} {t t' : Array Value} {ds es : List Nat} (h : TagOK B T t) (hs : Same ds t t') (he : ∀ i ∈ ds, i ∈ es) : TagOK B (T.untags es) t' :=
  h.of (fun x hx => by obtain ⟨h1, h2⟩ := delAll_mem hx; exact ⟨h1, hs.at_ _ (fun hd => h2 (he _ hd))⟩) (fun x hx => by obtain ⟨h1, h2⟩ := delAll_mem hx; exact ⟨h1, hs.at_ _ (fun hd => h2 (he _ hd))⟩) (fun x hx => ⟨x, hx, rfl, rfl⟩) (Nat.le_refl _)
omit hp in
theorem locF_use {L : List Blk} {w : World} {X : Prop} (hf : locF z L w X) (hL : Loc z L w w) : X := by
  unfold locF at hf
  split at hf
  · exact hf
  · exact hf hL
end
section
variable {E : Env} (hp : PurOK E) {z : Nat} include hp
theorem exec2_ok (c : Code) : ∀ (B : Bs) (Q : Exit → Fr → Trk → World → Prop) (Q' : Exit → Act → World → Prop) (l : Fr) (T : Trk) (tmps : Array Value) (w W : World), Rel l tmps → TagOK B T tmps → LocD z B T w W → exec2 E z c B Q l T w →
    (∀ e l' tmps' T' w' W', Rel l' tmps' → Same (dsts c) tmps tmps' → TagOK B T' tmps' → LocD z B T' w' W' → Q e l' T' w' → Q' e { tmps := tmps', defers := [] } W') → c.wp E.P Q' { tmps, defers := [] } W := by
  have back : ∀ {B keep : Bs} {T' : Trk} {t : Array Value}, TagOK (B ++ keep) T' t → TagOK B ⟨keep ++ T'.bs, T'.tg, T'.sg, T'.nx, T'.d⟩ t := fun h => h.of (fun x hx => ⟨hx, rfl⟩) (fun x hx => ⟨hx, rfl⟩) (fun x hx => ⟨x, by simpa [List.append_assoc] using hx, rfl, rfl⟩) (Nat.le_refl _)
  have backL : ∀ {B keep : Bs} {T' : Trk} {w W : World}, LocD z (B ++ keep) T' w W → LocD z B ⟨keep ++ T'.bs, T'.tg, T'.sg, T'.nx, T'.d⟩ w W := fun h => ⟨by have := h.l; unfold allB at this ⊢; simpa [List.append_assoc] using this, h.d, fun x hx => h.b0 x (List.mem_append.2 (.inl hx))⟩
  have hso : ∀ {B : Bs} {T : Trk} {w W : World}, LocD z B T w W → LocD z B T.soil w W.drew := fun h => ⟨h.l.drew, (fun h => by cases h), h.b0⟩
  have tso : ∀ {B : Bs} {T : Trk} {t : Array Value}, TagOK B T t → TagOK B T.soil t := fun h => ⟨h.p, h.s, h.lt⟩
  induction c with
  | skip => exact fun B Q Q' l T tmps w W h hT hL hf hQ => wp_skip (hQ _ _ _ _ _ _ h (.refl _ _) hT hL hf)
  | exit id => exact fun B Q Q' l T tmps w W h hT hL hf hQ => wp_exit (hQ _ _ _ _ _ _ h (.refl _ _) hT hL hf)
  | ret => exact fun B Q Q' l T tmps w W h hT hL hf hQ => wp_ret (hQ _ _ _ _ _ _ h (.refl _ _) hT hL hf)
  | region id ops draw =>
    intro B Q Q' l T tmps w W h hT hL hf hQ
    cases draw with
    | false =>
      exact wp_region_list (seqOps2_ok hp ops.toList l T w W tmps h hT hL hf (fun l' t' T' w' W' hr hs hT' hL' hk => hQ _ _ _ _ _ _ hr hs hT' hL' hk))
    | true =>
      simp only [exec2] at hf
      split at hf
      · rename_i hm hn
        split at hf
        · rename_i hB
          exact wp_region_still hm hB (stillOps2_ok (W := W.drew) hp ops.toList l T.soil w tmps h (tso hT) (hso hL) hf (fun l' t' T' w' hr hs hT' hL' hk => hQ _ _ _ _ _ _ hr hs hT' hL' hk))
        · exact hf.elim
      · rename_i n hm hn
        split at hf
        · rename_i hB
          have hops : ops = ops.toList.toArray := by simp
          rw [hops]
          rw [hops] at hB
          refine wp_region_still_tail n hm hB ?_
          rw [← hops]
          refine stillOps2_ok (W := W.drew) hp (ops.toList.take n) l T.soil w tmps h (tso hT) (hso hL) hf (fun l' t' T' w' hr hs hT' hL' hk => ?_)
          refine seqOps2_ok hp (ops.toList.drop n) l' T' w' W.drew t' hr hT' hL' hk (fun l'' t'' T'' w'' W'' hr' hs' hT2 hL2 hk' => hQ _ _ _ _ _ _ hr' ?_ hT2 hL2 hk')
          refine (hs.trans hs').mono fun i hi => ?_
          rw [← List.filterMap_append, List.take_append_drop] at hi
          exact hi
        · have fin : ∀ {l' : Fr} {t' : Array Value} {w' : World}, Rel l' t' → Same (ops.toList.filterMap (·.dst)) tmps t' → keptF (numsOf (B ++ ((T.drop (touched (.region id ops true) T)).untags (dsts (.region id ops true))).bs)) W.drew w' (Q .normal l' ((T.drop (touched (.region id ops true) T)).untags (dsts (.region id ops true))) w') → Q' .normal { tmps := t', defers := [] } w' := fun {l' t' w'} hr hs hk => by
            obtain ⟨hsz, hkp, hk⟩ := keptF_ok hk
            exact hQ .normal l' t' _ w' w' hr hs (tag_untags (hT.drop _) hs (fun i hi => hi)) ((hso hL).eff rfl hsz hkp) hk
          split at hf
          · rename_i hsel _
            have hf := syncF_use hf (hso hL)
            have hfg : Rel (forget (boxDs E.P ops.toList) l) tmps := forget_ok h (.refl _ _)
            have hH := boxF_ok (t0 := tmps) hp hsel (Q := Q') (fun l' t' w' hr hs hk => fin hr hs hk) _ ops.size _ _ tmps hfg (.refl _ _) (by simp) (by unfold unl; exact Nat.le_trans List.countP_le_length (by simp)) hf
            refine Code.wp_mono (fun e a w hq => ?_) (wp_region_any hm (wpAny_of_N _ _ _ _ hH))
            cases e with
            | panic c => exact hq.elim
            | _ => exact hq
          · rename_i hsel _
            obtain ⟨S, hS, hf⟩ := syncF_use hf (hso hL)
            have hH := heldF_ok (t0 := tmps) hp hsel (Q := Q') (fun l' t' w' hr hs hk => fin hr hs hk) _ _ _ l tmps W.drew h (.refl _ _) (fun _ => hS) hf
            refine Code.wp_mono (fun e a w hq => ?_) (wp_region_any hm (wpAny_of_N _ _ _ _ hH))
            cases e with
            | panic c => exact hq.elim
            | _ => exact hq
          · exact hf.elim
      · exact hf.elim
  | seq a b iha ihb =>
    intro B Q Q' l T tmps w W h hT hL hf hQ
    simp only [exec2] at hf
    split at hf
    · refine wp_seq (iha B _ _ l T tmps w W h hT hL hf (fun e l' t' T' w' W' hr hs hT' hL' hk => ?_))
      cases e with
      | normal => exact ihb B Q Q' l' T' t' w' W' hr hT' hL' hk (fun e l'' t'' T'' w'' W'' hr' hs' hT2 hL2 hk' => hQ _ _ _ _ _ _ hr' (hs.trans hs') hT2 hL2 hk')
      | _ => exact hQ _ _ _ _ _ _ hr (hs.mono fun i hi => List.mem_append.2 (.inl hi)) hT' hL' hk
    · rename_i carried hcar
      obtain ⟨J, ha, hall⟩ := syncF_use hf hL
      have hperm := delKeep_perm (ds := touched a T) T.bs
      have hTk : TagOK B ⟨calm (delAll (touched a T) T.bs), T.tg, T.sg, T.nx, false⟩ tmps := hT.of (fun x hx => ⟨hx, rfl⟩) (fun x hx => ⟨hx, rfl⟩) (fun x hx => by
        rcases List.mem_append.1 hx with hx | hx
        · exact ⟨x, List.mem_append.2 (.inl hx), rfl, rfl⟩
        · obtain ⟨_, y, hy, h2⟩ := calm_mem hx
          exact ⟨y, List.mem_append.2 (.inr (delAll_mem hy).1), h2⟩) (Nat.le_refl _)
      have hT0 : TagOK (B ++ calm (delAll (touched a T) T.bs)) ⟨calm (keepAll (touched a T) T.bs), T.tg, T.sg, T.nx, false⟩ tmps := hT.of (fun x hx => ⟨hx, rfl⟩) (fun x hx => ⟨hx, rfl⟩) (fun x hx => by
        rw [List.append_assoc] at hx
        rcases List.mem_append.1 hx with hx | hx
        · exact ⟨x, List.mem_append.2 (.inl hx), rfl, rfl⟩
        · rcases List.mem_append.1 hx with hx | hx
          · obtain ⟨_, y, hy, h2⟩ := calm_mem hx
            exact ⟨y, List.mem_append.2 (.inr (hperm.mem_iff.1 (List.mem_append.2 (.inl hy)))), h2⟩
          · obtain ⟨_, y, hy, h2⟩ := calm_mem hx
            exact ⟨y, List.mem_append.2 (.inr (hperm.mem_iff.1 (List.mem_append.2 (.inr hy)))), h2⟩) (Nat.le_refl _)
      have hL0 : LocD z (B ++ calm (delAll (touched a T) T.bs)) ⟨calm (keepAll (touched a T) T.bs), T.tg, T.sg, T.nx, false⟩ W W := by
        have hp : (blksOf (B ++ T.bs)).Perm (blksOf (B ++ (delAll (touched a T) T.bs ++ keepAll (touched a T) T.bs))) := by
          rw [blksOf_eq, blksOf_eq]
          exact List.Perm.map _ ((List.Perm.refl B).append hperm.symm)
        have hb0 : ∀ x ∈ B ++ calm (delAll (touched a T) T.bs), x.2.m = 0 := fun x hx => by
          rcases List.mem_append.1 hx with hx | hx
          · exact hL.b0 x hx
          · exact (calm_mem hx).1
        refine ⟨loc_zero (hL.l.perm hp) (.refl _) ?_ ?_, fun _ => rfl, hb0⟩
        · unfold allB; simp only [blks_app, List.map_append, calm_key, List.append_assoc]
        · intro x hx
          obtain ⟨i, hi⟩ := mem_blks.1 hx
          rcases List.mem_append.1 hi with hi | hi
          · exact hb0 _ hi
          · exact (calm_mem hi).1
      refine wp_seq (iha _ _ _ l _ tmps W W h hT0 hL0 ha (fun e l' t' T' w' W' hr hs hT' hL' hk => ?_))
      cases e with
      | normal =>
        simp only at hk
        have hk := syncF_use hk hL'
        split at hk
        · rename_i vs hvs
          obtain ⟨h1, h2⟩ := readAll_ok hr carried vs hvs
          subst h1
          have hsub : Loc z (blksOf (B ++ calm (delAll (touched a T) T.bs))) W' W' := loc_zero hL'.l (blks_sub (List.sublist_append_left _ _)) rfl (fun x hx => by obtain ⟨i, hi⟩ := mem_blks.1 hx; exact hL'.b0 _ hi)
          have hb := locF_use (allT_at _ _ hall _ h2 W' hk) hsub
          refine ihb B Q Q' _ _ t' W' W' (setAll_ok carried _ (forget_ok h hs)) ?_ ?_ hb (fun e l'' t'' T'' w'' W'' hr' hs' hT2 hL2 hk' => hQ _ _ _ _ _ _ hr' (hs.trans hs') hT2 hL2 hk')
          · exact tag_untags hTk hs (fun i hi => List.mem_append.2 (.inl hi))
          · exact ⟨hsub, fun _ => rfl, hL.b0⟩
        · exact hk.elim
      | _ => exact hQ _ _ _ _ _ _ hr (hs.mono fun i hi => List.mem_append.2 (.inl hi)) (back hT') (backL hL') hk
  | cond c a b iha ihb =>
    intro B Q Q' l T tmps w W h hT hL hf hQ
    simp only [exec2] at hf
    split at hf
    · rename_i t ht
      have ev := rd_ok (ds := []) h (fun _ _ hm => by simp at hm) ht
      cases t with
      | true => exact wp_cond_true ev (iha B Q Q' l T tmps w W h hT hL hf (fun e l' t' T' w' W' hr hs hT' hL' hk => hQ _ _ _ _ _ _ hr (hs.mono fun i hi => List.mem_append.2 (.inl hi)) hT' hL' hk))
      | false => exact wp_cond_false ev (ihb B Q Q' l T tmps w W h hT hL hf (fun e l' t' T' w' W' hr hs hT' hL' hk => hQ _ _ _ _ _ _ hr (hs.mono fun i hi => List.mem_append.2 (.inr hi)) hT' hL' hk))
    · exact hf.elim
  | block id c ih =>
    intro B Q Q' l T tmps w W h hT hL hf hQ
    refine wp_block (ih B _ _ l T tmps w W h hT hL hf (fun e l' t' T' w' W' hr hs hT' hL' hk => ?_))
    cases e with
    | exit i =>
      simp only at hk
      simp only [Exit.inBlock]
      split at hk
      · rename_i hi
        rw [if_pos (by simpa using hi)]
        exact hQ _ _ _ _ _ _ hr hs hT' hL' hk
      · rename_i hi
        rw [if_neg (by simpa using hi)]
        exact hQ _ _ _ _ _ _ hr hs hT' hL' hk
    | _ => exact hQ _ _ _ _ _ _ hr hs hT' hL' hk
  | loop c ih =>
    intro B Q Q' l T tmps w W h hT hL hf hQ
    simp only [exec2] at hf
    split at hf
    · exact hf.elim
    · rename_i carried hcar
      obtain ⟨I, m, h0, hall⟩ := syncF_use hf hL
      have hb0 : ∀ x ∈ B ++ calm (delAll (touched c T) T.bs), x.2.m = 0 := fun x hx => by
        rcases List.mem_append.1 hx with hx | hx
        · exact hL.b0 x hx
        · exact (calm_mem hx).1
      have hsub0 : Loc z (blksOf (B ++ calm (delAll (touched c T) T.bs))) W W := (hL.anew (T' := ⟨calm (delAll (touched c T) T.bs), T.tg, T.sg, T.nx, false⟩) rfl).l
      refine wp_loop (fun a w' => ∃ t', a = { tmps := t', defers := [] } ∧ okL (carried.map (·.2)) (vsOf t' carried) = true ∧ Same (dsts c) tmps t' ∧ I (vsOf t' carried) w' ∧ Loc z (blksOf (B ++ calm (delAll (touched c T) T.bs))) w' w') (fun a w' => m (vsOf a.tmps carried) w') ?_ ?_
      · split at h0
        · rename_i vs hvs
          obtain ⟨h1, h2⟩ := readAll_ok h carried vs hvs
          subst h1
          exact ⟨tmps, rfl, h2, .refl _ _, h0, hsub0⟩
        · exact h0.elim
      · rintro a w' ⟨t', rfl, hok, hsame, hI, hLw⟩
        have hb := locF_use (allT_at _ _ hall _ hok w' hI) hLw
        refine ih _ _ _ _ _ t' w' w' (setAll_ok carried _ (forget_ok h hsame)) ?_ ?_ hb (fun e l' t'' T'' w'' W'' hr hs hT2 hL2 hk => ?_)
        · refine tag_untags (B := B ++ calm (delAll (touched c T) T.bs)) (T := ⟨[], T.tg, T.sg, T.nx, false⟩) (hT.of (fun x hx => ⟨hx, rfl⟩) (fun x hx => ⟨hx, rfl⟩) (fun x hx => ?_) (Nat.le_refl _)) hsame (fun i hi => List.mem_append.2 (.inl hi))
          rw [List.append_nil] at hx
          rcases List.mem_append.1 hx with hx | hx
          · exact ⟨x, List.mem_append.2 (.inl hx), rfl, rfl⟩
          · obtain ⟨_, y, hy, h2⟩ := calm_mem hx
            exact ⟨y, List.mem_append.2 (.inr (delAll_mem hy).1), h2⟩
        · refine ⟨?_, fun _ => rfl, hb0⟩
          show Loc z (blksOf (B ++ calm (delAll (touched c T) T.bs) ++ [])) w' w'
          rw [List.append_nil]; exact hLw
        cases e with
        | normal =>
          simp only at hk
          have hk := syncF_use hk hL2
          split at hk
          · rename_i vs' hvs
            obtain ⟨h1, h2⟩ := readAll_ok hr carried vs' hvs
            subst h1
            exact ⟨⟨t'', rfl, h2, (hsame.trans hs).mono (fun i hi => by simpa using hi), hk.1, loc_zero hL2.l (blks_sub (List.sublist_append_left _ _)) rfl (fun x hx => by obtain ⟨i, hi⟩ := mem_blks.1 hx; exact hb0 _ hi)⟩, hk.2⟩
          · exact hk.elim
        | _ => exact hQ _ _ _ _ _ _ hr ((hsame.trans hs).mono (fun i hi => by simpa [dsts] using hi)) (back hT2) (backL hL2) hk
  | _ => exact fun B Q Q' l T tmps w W h hT hL hf hQ => hf.elim
set_option maxRecDepth 512 in omit hp in
theorem resF2_ok {l : Fr} {T : Trk} {w W : World} {tmps : Array Value} (h : Rel l tmps) (hT : TagOK [] T tmps) (hL : LocD z [] T w W) : ∀ (rs : List ResultVar) (F : List Value → Prop), resF2 E z T l w rs F →
    ∃ vs, F vs ∧ (rs.mapM (resV tmps) : Sem (List Value)).run E.P W = .ok vs W
  | [], F, hf => ⟨[], hf, by simp⟩
  | .tmp t :: r, F, hf => by
    simp only [resF2] at hf
    split at hf
    · rename_i v hv
      have ev := rd_ok (ds := []) h (fun _ _ hm => by simp at hm) hv
      obtain ⟨vs, h1, h2⟩ := resF2_ok h hT hL r _ hf
      refine ⟨_, h1, ?_⟩
      have ev' : tmps.getD t undef = v := ev
      rw [List.mapM_cons, Sem.run_bind]
      show ((Result.ok (tmps.getD t undef) W).andThen _) = _
      rw [Result.andThen_ok, Sem.run_bind, h2, ev']
      rfl
    · exact hf.elim
  | .cell a t :: r, F, hf => by
    have fin : ∀ {b o : Nat} {agg : Bool} {n : Nat} {cs : List Value}, tmps.getD a undef = .pointer (some ⟨b, o, none⟩) → ldK E.P t = some (agg, n) → (cs.length == n) = true → At W b o cs → (resF2 E z T l w r fun vs => F (toV agg cs :: vs)) → ∃ vs, F vs ∧ ((.cell a t :: r).mapM (resV tmps) : Sem (List Value)).run E.P W = .ok vs W := by
      intro b o agg n cs ev' hk hlen hat hf
      have hl := run_loadVar' hk hlen hat
      obtain ⟨vs, h4, h5⟩ := resF2_ok h hT hL r _ hf
      refine ⟨_, h4, ?_⟩
      have hv' : (resV tmps (.cell a t)).run E.P W = .ok (toV agg cs) W := by
        simp only [resV, ev', asAddr]
        rw [Sem.run_bind]
        exact hl
      rw [List.mapM_cons, Sem.run_bind, hv', Result.andThen_ok, Sem.run_bind, h5]
      rfl
    simp only [resF2] at hf
    split at hf
    · rename_i v hl
      obtain ⟨b, off, agg, n, cs, h1, h2, h3, h4, rfl⟩ := trkLoad_ok hl hT hL.l
      exact fin h1 h2 h3 h4 hf
    · exact hf.elim
    · split at hf
      · rename_i p hv
        have ev := rd_ok (ds := []) h (fun _ _ hm => by simp at hm) hv
        unfold loadF at hf
        obtain ⟨b, o, h1, h2⟩ := nn_ex hf
        have h2 := h2 rfl
        subst h2
        split at h1
        · rename_i agg n ck hk hs
          obtain ⟨cs, h3⟩ := exT_ex _ _ h1
          split at h3
          · rename_i hlen
            exact fin ev hk hlen (AtF_at (syncF_use (gimp_true h3.1 rfl) hL)) h3.2
          · exact h3.elim
        · exact h1.elim
      · exact hf.elim
/-- FROM THE FORMULA TO THE CONTRACT. -/
theorem calls_of_exec2 {f : FuncId} {fn : Func} {c : Code} {args : List Value} {w : World} {R : Ending → World → Prop} (hf : E.P.funcs[f]? = some fn) (hb : fn.body = some c)
    (h : execR2 E fn.results.toList R c (initF args (fn.ntmps - args.length)) w) : Calls E.P f args.toArray w R := by
  refine calls_of_wp hf hb ?_
  have hi := initF_ok args (fn.ntmps - args.length)
  have hT0 : ∀ t : Array Value, TagOK [] ⟨[], [], [], 0, false⟩ t := fun t => ⟨(fun _ _ _ h => by cases h), (fun _ _ h => by cases h), (fun _ h => by cases h)⟩
  have hL0 : LocD w.heap.size [] ⟨[], [], [], 0, false⟩ w w := ⟨⟨.refl _ _, (fun _ h => by cases h), (fun _ h => by cases h), .nil, (fun _ h => by cases h), Nat.le_refl _⟩, fun _ => rfl, (fun _ h => by cases h)⟩
  have res : ∀ {t' : Array Value} {w' : World} {vs : List Value}, (fn.results.toList.mapM (resV t') : Sem (List Value)).run E.P w' = .ok vs w' → (results fn t').run E.P w' = .ok (retV vs) w' := fun {t' w' vs} h2 => by
    show (do let vs ← fn.results.mapM (resV t'); pure (if h : vs.size = 1 then vs[0] else .tuple vs) : Sem Value).run E.P w' = _
    rw [Sem.run_bind, Array.mapM_eq_mapM_toList, Sem.run_map, h2]
    show Result.ok (if h : vs.toArray.size = 1 then vs.toArray[0] else .tuple vs.toArray) w' = _
    match vs with
    | [] => rfl
    | [v] => rfl
    | a :: b :: r => simp [retV]
  unfold execR2 at h
  split at h
  · refine exec2_ok hp c [] _ _ _ _ _ w w (by simpa using hi) (hT0 _) hL0 h (fun e l' t' T' w' W' hr _ hT' hL' hq => ?_)
    have key : (resF2 E w.heap.size T' l' w' fn.results.toList fun vs => syncF w.heap.size [] T' w' fun W => R (.returned (retV vs)) W) → ∃ v, (results fn t').run E.P W' = .ok v W' ∧ R (.returned v) W' := fun hq => by
      obtain ⟨vs, h1, h2⟩ := resF2_ok hr hT' hL' _ _ hq
      exact ⟨retV vs, res h2, syncF_use h1 hL'⟩
    cases e with
    | normal => exact ⟨rfl, key hq⟩
    | ret => exact ⟨rfl, key hq⟩
    | _ => exact hq.elim
  · rename_i carried hcar
    obtain ⟨J, hex, hall⟩ := h
    have fin : ∀ (l' : Fr) (t' : Array Value) (w' : World), Rel l' t' → t'.size = (initF args (fn.ntmps - args.length)).length → (match readAll l' carried with | some vs => J vs w' | none => False) → ∃ v, (results fn t').run E.P w' = .ok v w' ∧ R (.returned v) w' := by
      intro l' t' w' hr hsz hq
      split at hq
      · rename_i vs hvs
        obtain ⟨h1, h2⟩ := readAll_ok hr carried vs hvs
        subst h1
        have hb := allT_at _ _ hall _ h2 w' hq
        obtain ⟨vs, h1, h2⟩ := resF_ok (tmps := t') (setAll_ok carried _ ⟨by simp [hsz], fun t s ht => by
          rw [List.getElem?_map] at ht
          cases hx : (initF args (fn.ntmps - args.length))[t]? with
          | none => simp [hx] at ht
          | some y => simp [hx] at ht; subst ht; trivial⟩) _ _ hb
        exact ⟨retV vs, res h2, h1⟩
      · exact hq.elim
    refine exec2_ok hp c [] _ _ _ _ _ w w (by simpa using hi) (hT0 _) hL0 hex (fun e l' t' T' w' W' hr hs hT' hL' hq => ?_)
    have hsz : t'.size = (initF args (fn.ntmps - args.length)).length := by
      rw [hs.size]
      simpa using hi.size
    cases e with
    | normal => exact ⟨rfl, fin l' t' W' hr hsz (syncF_use hq hL')⟩
    | ret => exact ⟨rfl, fin l' t' W' hr hsz (syncF_use hq hL')⟩
    | _ => exact hq.elim
end
theorem calls_of_exec2' {P : Program} {loops : List (Nat × List (Nat × Ck))} {pur : FuncId → List Value → Option (Option Prop × Value)} {tails : List (Nat × Nat)} {joins : List (Nat × List (Nat × Ck))} {boxes : List (Nat × Unit)} {rngs : List (Nat × TypeId)} {f : FuncId} {fn : Func} {c : Code} {args : List Value} {w : World} {R : Ending → World → Prop} {V : Prop}
    (hp : PurOK { P, loops, pur, tails, joins, boxes, rngs }) (hf : P.funcs[f]? = some fn) (hb : fn.body = some c)
    (e : execR2 { P, loops, pur, tails, joins, boxes, rngs } fn.results.toList R c (initF args (fn.ntmps - args.length)) w = V) (h : V) : Calls P f args.toArray w R :=
  calls_of_exec2 (E := { P, loops, pur, tails, joins, boxes, rngs }) hp hf hb (e.mpr h)

end Go.Proofs.YtkkfnlehlkiejaaGreatDoor

/- Lemmas on rows and strings in the memory. Generic: no program, no condition. -/
namespace Go.Proofs.YtkkfnlehlkiejaaGreatDoor
open Go.RowKit

/-- Strings that lie one behind the other. -/
def StrP (w : World) (p : Option Addr) (zs : List ByteArray) : Prop := ∀ j z, zs[j]? = some z → ∃ b o, p = some ⟨b, o, none⟩ ∧ w.cell? ⟨b, o + j, none⟩ = some (.string z)
theorem StrP.kp {M : Nat → Prop} {w w' : World} {p : Option Addr} {zs : List ByteArray} (h : StrP w p zs) (hk : Kp M w w') (hm : ∀ b o, p = some ⟨b, o, none⟩ → ¬ M b) : StrP w' p zs := fun j z hj => by
  obtain ⟨b, o, hp, hc⟩ := h j z hj
  exact ⟨b, o, hp, hk.cell' hc (hm b o hp)⟩
/-- A cell of a row. -/
theorem own_cellL {w : World} {base : Nat} {e : TypeId} {L n c : Nat} {p : Option Addr} {xs : List Value} (h : w.ownsRow base e L (.slice p n c) n xs) {i : Nat} {v : Value} (hv : xs[i]? = some v) : ∃ g, p = some ⟨g, 0, none⟩ ∧ w.cell? ⟨g, i, none⟩ = some v := by
  have hl := h.1
  have hi : i < xs.length := (List.getElem?_eq_some_iff.1 hv).1
  rcases h.2 with ⟨_, hn⟩ | ⟨g, cap, cur, he, _, hg, _, _, _, ht⟩
  · rw [hn, Nat.zero_mul] at hl; omega
  · simp only [Value.slice.injEq] at he
    refine ⟨g, he.1, ?_⟩
    rw [cell_block hg]
    rw [← ht, List.getElem?_take] at hv
    split at hv
    · rw [Array.getElem?_toList] at hv; exact hv
    · cases hv
theorem flat_get {α : Type} (f : α → List Value) (L : Nat) : ∀ (l : List α) (k : Nat) (x : α) (j : Nat), (∀ y ∈ l, (f y).length = L) → l[k]? = some x → j < L → (l.flatMap f)[k * L + j]? = (f x)[j]?
  | [], k, x, j, _, h, _ => by simp at h
  | y :: l, 0, x, j, hl, h, hj => by
    simp at h
    subst h
    rw [List.flatMap_cons, Nat.zero_mul, Nat.zero_add, List.getElem?_append_left (by rw [hl y (by simp)]; exact hj)]
  | y :: l, k + 1, x, j, hl, h, hj => by
    have hy := hl y (by simp)
    rw [List.flatMap_cons, List.getElem?_append_right (by rw [hy, Nat.succ_mul]; omega), hy]
    rw [show (k + 1) * L + j - L = k * L + j by rw [Nat.succ_mul]; omega]
    exact flat_get f L l k x j (fun z hz => hl z (by simp [hz])) (by simpa using h) hj
theorem own_strP {w : World} {base : Nat} {p : Option Addr} {n c : Nat} {zs : List ByteArray} {t : TypeId} (h : w.ownsRow base t 1 (.slice p n c) n (zs.map Value.string)) : n = zs.length ∧ n ≤ c ∧ StrP w p zs ∧ (∀ k o, p = some ⟨k, o, none⟩ → base ≤ k ∧ k < w.heap.size) ∧ (p = none → zs = []) := by
  have hl := h.1
  rw [List.length_map] at hl
  refine ⟨by omega, ?_, fun j z hj => ?_, fun k o e => ?_, fun e => ?_⟩
  · rcases h.2 with ⟨_, h0⟩ | ⟨g, cap, cur, hv, _, _, h9, _⟩
    · omega
    · simp at hv; omega
  · obtain ⟨g, v, hp, hv, hc⟩ := own_cell h (k := j) (by have := (List.getElem?_eq_some_iff.1 hj).1; omega)
    rw [List.getElem?_map, hj] at hv
    simp at hv
    subst hv
    exact ⟨g, 0, hp, hc⟩
  · subst e
    exact ⟨own_ge h rfl, own_lt h rfl⟩
  · subst e
    rcases h.2 with ⟨_, h0⟩ | ⟨g, cap, cur, hv, _⟩
    · exact List.eq_nil_of_length_eq_zero (by omega)
    · simp at hv
theorem own_base {w : World} {base base' : Nat} {e : TypeId} {size : Nat} {v : Value} {n : Nat} {xs : List Value} (h : w.ownsRow base e size v n xs) (hb : base' ≤ base) : w.ownsRow base' e size v n xs :=
  ⟨h.1, h.2.imp id fun ⟨g, cap, cur, a1, a2, a3⟩ => ⟨g, cap, cur, a1, Nat.le_trans hb a2, a3⟩⟩
/-- One element is appended (its cells lie in a block). -/
theorem app2 {w : World} {base n2 n c L sz : Nat} {T T' : TypeId} {f : Nat × Nat} {p : Option Addr} {xs : List Value} {cs : Array Value} (ho : w.ownsRow base T L (.slice p n c) n xs) (hb : base ≤ w.heap.size) (hs : w.heap[n2]? = some (.cells cs T' f)) (hL : cs.size = L)
    (hv : ∀ u ∈ cs.toList, u.oneCell' = true) (h1 : n + 1 ≤ 9223372036854775807) (h2 : (n + 1) * sz ≤ 140737488355328) {X : Option Addr → Nat → World → Prop}
    (h : ∀ (p' : Option Addr) (c' : Nat) (w' : World), w'.ownsRow base T L (.slice p' (n + 1) c') (n + 1) (xs ++ cs.toList) → Kp (fun k => (Value.slice p n c).ownBlock = some k) w w' → X p' c' w') :
    ∃ (base : Nat) (xs news : List Value), w.ownsRow base T L (.slice p n c) n xs ∧ news.length = L ∧ SrcP w (some (Addr.mk n2 0 none)) news ∧ n + 1 ≤ 9223372036854775807 ∧ (n + 1) * sz ≤ 140737488355328 ∧ base ≤ w.heap.size ∧
      ∀ (p' : Option Addr) (c' : Nat) (w' : World), w'.ownsRow base T L (.slice p' (n + 1) c') (n + 1) (xs ++ news) → w.grownBy w' (Value.slice p n c).ownBlock → (n + 1 ≤ c → p' = p ∧ c' = c) → X p' c' w' :=
  ⟨base, xs, cs.toList, ho, by simpa using hL, src_block hs hv, h1, h2, hb, fun p' c' w' ho' hg _ => h p' c' w' ho' ((Kp.refl _ _).grown hg (fun k hk => .inr hk))⟩
theorem own_apart {w : World} {base base' : Nat} {e e' : TypeId} {s s' : Nat} {v v' : Value} {n n' : Nat} {xs xs' : List Value} (h : w.ownsRow base e s v n xs) (h' : w.ownsRow base' e' s' v' n' xs') (hne : e ≠ e') : ∀ k, v.ownBlock = some k → v'.ownBlock ≠ some k := fun k hk hk' => by
  obtain ⟨c, h1⟩ := own_type h hk
  obtain ⟨c', h2⟩ := own_type h' hk'
  rw [h1] at h2
  simp at h2
  exact hne h2.2
theorem AtL.k0 {w w' : World} {b o : Nat} {cs : List Value} (h : AtL w b o cs) (hk : K0 w w') : AtL w' b o cs := by
  have key : ∀ (cs : List Value) (o : Nat), At w b o cs → At w' b o cs := by
    intro cs
    induction cs with
    | nil => intro o _; trivial
    | cons v r ih =>
      intro o h
      cases r with
      | nil => exact hk.cell' h (fun h => h)
      | cons u r => exact ⟨hk.cell' h.1 (fun h => h), ih (o + 1) h.2⟩
  exact ⟨key cs o h.h⟩
theorem nn_off {p : Option Addr} {K : Nat → Nat → Prop} (h : ∀ b o, K b o) : nn false p K := by
  match p with
  | none => exact ⟨rfl, h 0 0⟩
  | some ⟨b, o, none⟩ => exact h b o
  | some ⟨b, o, some x⟩ => exact ⟨rfl, h 0 0⟩
theorem own_le {w : World} {base : Nat} {e : TypeId} {size n c : Nat} {p : Option Addr} {xs : List Value} (h : w.ownsRow base e size (.slice p n c) n xs) : n ≤ c := by
  rcases h.2 with ⟨hv, hn⟩ | ⟨g, cap, cur, hv, _, _, hc, _⟩
  · omega
  · simp only [Value.slice.injEq, true_and] at hv
    rw [hv.2]; exact hc
/-- A block of no cells is an empty row. -/
theorem own_none {w : World} {base n0 : Nat} {e : TypeId} {size : Nat} (hb : base ≤ n0) (h : w.heap[n0]? = some (.cells #[] e (0, 0))) : w.ownsRow base e size (.slice (some ⟨n0, 0, none⟩) 0 0) 0 [] :=
  ⟨by simp, .inr ⟨n0, 0, #[], rfl, hb, h, Nat.le_refl _, by decide, by simp, by simp⟩⟩
theorem src_take {w : World} {base : Nat} {e : TypeId} {size n c : Nat} {p : Option Addr} {xs : List Value} (h : w.ownsRow base e size (.slice p n c) n xs) (h1 : ∀ u ∈ xs, u.oneCell' = true) (m : Nat) : SrcP w p (xs.take m) := by
  refine ⟨fun j u hj => ?_, fun u hu => h1 u (List.mem_of_mem_take hu)⟩
  rw [List.getElem?_take] at hj
  split at hj
  · obtain ⟨g, hp, hc⟩ := own_cellL h hj
    exact ⟨g, 0, hp, by rw [Nat.zero_add]; exact hc⟩
  · cases hj
theorem src_drop {w : World} {base : Nat} {e : TypeId} {size n c : Nat} {p : Option Addr} {xs : List Value} (h : w.ownsRow base e size (.slice p n c) n xs) (h1 : ∀ u ∈ xs, u.oneCell' = true) {i : Nat} (hi : i ≤ n) : SrcP w (slA p c i size) (xs.drop (i * size)) := by
  refine ⟨fun j u hj => ?_, fun u hu => h1 u (List.mem_of_mem_drop hu)⟩
  rw [List.getElem?_drop] at hj
  obtain ⟨g, hp, hc⟩ := own_cellL h hj
  have hlt := (List.getElem?_eq_some_iff.1 hj).1
  have hl := h.1
  have hle := own_le h
  have hne : c ≠ i := by
    intro e
    have : n = i := by omega
    subst this
    omega
  refine ⟨g, i * size, ?_, hc⟩
  unfold slA
  rw [if_neg hne, hp]
  simp [add_plain]
theorem kp_grown {w w' : World} {row : Option Nat} (hg : w.grownBy w' row) : Kp (fun k => row = some k) w w' := (Kp.refl _ _).grown hg (fun _ hk => .inr hk)
theorem take_flat {α : Type} (f : α → List Value) (L : Nat) : ∀ (l : List α) (m : Nat), (∀ y ∈ l, (f y).length = L) → (l.flatMap f).take (m * L) = (l.take m).flatMap f
  | [], m, _ => by simp
  | y :: l, 0, _ => by simp
  | y :: l, m + 1, h => by
    have hy := h y List.mem_cons_self
    rw [List.flatMap_cons, List.take_append, List.take_of_length_le (by rw [hy, Nat.succ_mul]; omega), hy, show (m + 1) * L - L = m * L by rw [Nat.succ_mul]; omega, take_flat f L l m (fun z hz => h z (List.mem_cons_of_mem _ hz))]
    rfl
theorem drop_flat {α : Type} (f : α → List Value) (L : Nat) : ∀ (l : List α) (m : Nat), (∀ y ∈ l, (f y).length = L) → (l.flatMap f).drop (m * L) = (l.drop m).flatMap f
  | [], m, _ => by simp
  | y :: l, 0, _ => by simp
  | y :: l, m + 1, h => by
    have hy := h y List.mem_cons_self
    rw [List.flatMap_cons, List.drop_append, List.drop_eq_nil_of_le (by rw [hy, Nat.succ_mul]; omega), hy, show (m + 1) * L - L = m * L by rw [Nat.succ_mul]; omega, drop_flat f L l m (fun z hz => h z (List.mem_cons_of_mem _ hz))]
    rfl
theorem len_flat {α : Type} (f : α → List Value) (L : Nat) : ∀ (l : List α), (∀ y ∈ l, (f y).length = L) → (l.flatMap f).length = l.length * L
  | [], _ => by simp
  | y :: l, h => by
    rw [List.flatMap_cons, List.length_append, h y List.mem_cons_self, len_flat f L l (fun z hz => h z (List.mem_cons_of_mem _ hz)), List.length_cons, Nat.succ_mul]; omega

/-- An element of a row. -/
theorem own_at {α : Type} (f : α → List Value) {L : Nat} {w : World} {base : Nat} {e : TypeId} {p : Option Addr} {n c : Nat} {l : List α} (h : w.ownsRow base e L (.slice p n c) n (l.flatMap f)) (hl : ∀ y ∈ l, (f y).length = L) (h0 : 0 < L) {k : Nat} {y : α} (hy : l[k]? = some y) : ∃ g, p = some ⟨g, 0, none⟩ ∧ AtL w g (0 + k * L) (f y) := by
  have hyl := hl y (List.mem_of_getElem? hy)
  have key : ∀ j v, (f y)[j]? = some v → ∃ g, p = some ⟨g, 0, none⟩ ∧ w.cell? ⟨g, k * L + j, none⟩ = some v := fun j v hv => own_cellL h (by
    have hj : j < L := by rw [← hyl]; exact (List.getElem?_eq_some_iff.1 hv).1
    rw [flat_get f L l k y j hl hy hj]; exact hv)
  obtain ⟨g, hp, _⟩ := key 0 _ (List.getElem?_eq_getElem (by omega))
  refine ⟨g, hp, ⟨At_of _ _ fun j v hv => ?_⟩⟩
  obtain ⟨g', hp', hc⟩ := key j v hv
  rw [hp] at hp'
  simp only [Option.some.injEq, Addr.mk.injEq, and_true] at hp'
  subst hp'
  rw [Nat.zero_add]; exact hc
theorem AtL.left {w : World} {b o : Nat} {l1 l2 : List Value} (h : AtL w b o (l1 ++ l2)) : AtL w b o l1 :=
  ⟨At_of _ _ fun j v hv => At_get _ _ h.h j v (by rw [List.getElem?_append_left (List.getElem?_eq_some_iff.1 hv).1]; exact hv)⟩

end Go.Proofs.YtkkfnlehlkiejaaGreatDoor

/- What an argument that was read gives: its cells, strings of slices, bytes of arrays. Generic but for the types' numbers. No condition. -/
namespace Go.Proofs.YtkkfnlehlkiejaaGreatDoor
open Go.ChangeShapes Go.WideShapes Go.ChangeAt Go.RowKit Go.Deep

/-- Cells that were read as a value of a type. -/
def Rd {H : Type} (enc : TypeId × Value → H) (P : Program) (W : World) (t : TypeId) (cs : List Value) : Prop := ∃ (fuel : Nat) (x : DataW H × List MemPlace), DataW.trod enc P W 0 (fun _ => true) true fuel t cs = some x
section
variable {H : Type} {enc : TypeId × Value → H} {P : Program} {W : World} {t : TypeId} {cs : List Value}
theorem Rd.of {v : Value} {d : DataW H} {ps : List MemPlace} (h : DataW.Trod enc P W 0 (fun _ => true) true t v d ps) : Rd enc P W t v.cells.toList := by
  obtain ⟨fuel, h⟩ := h; exact ⟨fuel, _, h⟩
theorem Rd.field {fs : Array Field} (h : Rd enc P W t cs) (ht : P.underlying t = some (.struct fs)) {i : Nat} {f : Field} (hf : fs[i]? = some f) : Rd enc P W f.type ((cs.drop f.offset).take (P.cellsOf f.type)) := by
  obtain ⟨fuel, x, h⟩ := h
  obtain ⟨xs, n, _, _, _, hl, hg⟩ := DataW.trod_struct ht h
  have hi : i < xs.length := by rw [hl]; exact (Array.getElem?_eq_some_iff.1 hf).1
  exact ⟨n, xs[i], by rw [hg i f hf, List.getElem?_eq_getElem hi]⟩
theorem Rd.int {k : IntKind} (h : Rd enc P W t cs) (ht : P.underlying t = some (.int k)) : ∃ n, cs = [.int k n] ∧ (Lit.int k n).wf = true := by
  obtain ⟨fuel, x, h⟩ := h
  obtain ⟨n, h1, _, h2⟩ := DataW.trod_int ht h
  exact ⟨n, h1, h2⟩
theorem Rd.bool (h : Rd enc P W t cs) (ht : P.underlying t = some .bool) : ∃ b, cs = [.bool b] := by
  obtain ⟨fuel, x, h⟩ := h
  obtain ⟨b, h1, _⟩ := DataW.trod_bool ht h
  exact ⟨b, h1⟩
theorem Rd.str (h : Rd enc P W t cs) (ht : P.underlying t = some .string) : ∃ s : ByteArray, cs = [.string s] ∧ s.size ≤ 9223372036854775807 := by
  obtain ⟨fuel, x, h⟩ := h
  obtain ⟨s, h1, _, h2⟩ := DataW.trod_string ht h
  exact ⟨s, h1, h2⟩
/-- A slice that was read: its elements. -/
theorem Rd.slice {e : TypeId} (h : Rd enc P W t cs) (ht : P.underlying t = some (.slice e)) (hp : 0 < P.cellsOf e) : ∃ (p : Option Addr) (n c : Nat), cs = [.slice p n c] ∧ n ≤ c ∧ n ≤ 9223372036854775807 ∧
    ∀ i, i < n → ∃ (b o : Nat) (cs' : List Value), p = some ⟨b, o, none⟩ ∧ cs'.length = P.cellsOf e ∧ (∀ j v, cs'[j]? = some v → W.cell? ⟨b, o + i * P.cellsOf e + j, none⟩ = some v) ∧ Rd enc P W e cs' := by
  obtain ⟨fuel, x, h⟩ := h
  rcases open_slice ht h with ⟨h0, _⟩ | ⟨a, len, cap, m, nn, D, Pl, hcs, hb, hl, hm, hmm, hx, hi⟩
  · exact ⟨none, 0, 0, h0, by omega, by omega, fun i hi => by omega⟩
  · refine ⟨some a, len, cap, hcs, hl, by unfold maxLen at hm; omega, fun i hilt => ?_⟩
    have hmc : m = cap := by rw [hmm]; rfl
    obtain ⟨cs', hc, ht'⟩ := hi i (by omega)
    obtain ⟨_, hlen, hat⟩ := World.cells?_some hc
    have hspot : a.spot = none := by
      obtain ⟨cs0, hc0, _⟩ := hi 0 (by omega)
      obtain ⟨_, hl0, ha0⟩ := World.cells?_some hc0
      have h00 := ha0 0 hp
      rw [List.getElem?_eq_getElem (by omega)] at h00
      have := World.cell?_spot h00
      simpa [Addr.add] using this
    obtain ⟨b, o, sp⟩ := a
    simp only at hspot
    subst hspot
    refine ⟨b, o, cs', rfl, hlen, fun j v hj => ?_, nn, _, ht'⟩
    have hjl : j < P.cellsOf e := by have := (List.getElem?_eq_some_iff.1 hj).1; omega
    have := hat j hjl
    rw [addr_add2, hj] at this
    exact this
/-- A slice of strings that was read. -/
theorem Rd.strs {e : TypeId} (h : Rd enc P W t cs) (ht : P.underlying t = some (.slice e)) (he : P.underlying e = some .string) (h1 : P.cellsOf e = 1) : ∃ (p : Option Addr) (zs : List ByteArray) (c : Nat), cs = [.slice p zs.length c] ∧ zs.length ≤ c ∧ StrP W p zs ∧ ∀ z ∈ zs, z.size ≤ 9223372036854775807 := by
  obtain ⟨p, n, c, hcs, hnc, _, hel⟩ := h.slice ht (by omega)
  have key : ∀ i, i < n → ∃ z : ByteArray, z.size ≤ 9223372036854775807 ∧ ∃ b o, p = some ⟨b, o, none⟩ ∧ W.cell? ⟨b, o + i, none⟩ = some (.string z) := fun i hi => by
    obtain ⟨b, o, cs', hp, hl, hc, hr⟩ := hel i hi
    obtain ⟨z, rfl, hz⟩ := hr.str he
    have := hc 0 _ rfl
    rw [h1] at this
    exact ⟨z, hz, b, o, hp, by simpa using this⟩
  have hex : ∃ g : Nat → ByteArray, ∀ i, i < n → (g i).size ≤ 9223372036854775807 ∧ ∃ b o, p = some ⟨b, o, none⟩ ∧ W.cell? ⟨b, o + i, none⟩ = some (.string (g i)) := by
    refine ⟨fun i => if h : i < n then Classical.choose (key i h) else ByteArray.empty, fun i hi => ?_⟩
    simp only [hi, dif_pos]
    exact Classical.choose_spec (key i hi)
  obtain ⟨g, hg⟩ := hex
  refine ⟨p, (List.range n).map g, c, by simpa using hcs, by simpa using hnc, fun j z hj => ?_, fun z hz => ?_⟩
  · rw [List.getElem?_map] at hj
    rcases Nat.lt_or_ge j n with h | h
    · simp [h] at hj
      subst hj
      exact (hg j h).2
    · simp [h] at hj
  · obtain ⟨i, hi, rfl⟩ := List.mem_map.1 hz
    exact (hg i (List.mem_range.1 hi)).1
theorem arrI_ext (k : IntKind) (f : Nat → Int) : ∀ (n i : Nat) (cs : List Value), cs.length = n → (∀ j, j < n → cs[j]? = some (.int k (f (i + j)))) → cs = arrI k f n i
  | 0, i, [], _, _ => rfl
  | 0, i, _ :: _, h, _ => by simp at h
  | n + 1, i, [], h, _ => by simp at h
  | n + 1, i, c :: cs, h, hc => by
    have h0 := hc 0 (by omega)
    simp at h0
    simp only [arrI]
    rw [h0, ← arrI_ext k f n (i + 1) cs (by simpa using h) (fun j hj => by
      have := hc (j + 1) (by omega)
      rw [show i + 1 + j = i + (j + 1) by omega]
      simpa using this)]
/-- An array of numbers that was read. -/
theorem Rd.arr {n : Nat} {e : TypeId} {k : IntKind} (h : Rd enc P W t cs) (ht : P.underlying t = some (.array n e)) (he : P.underlying e = some (.int k)) (h1 : P.cellsOf e = 1) (hn : P.cellsOf t = n) : ∃ f : Nat → Int, cs = arrI k f n 0 := by
  obtain ⟨fuel, x, h⟩ := h
  obtain ⟨xs, m, _, _, hl, hxl, hg⟩ := DataW.trod_array ht h
  rw [hn] at hl
  have key : ∀ i, i < n → ∃ z : Int, cs[i]? = some (.int k z) := fun i hi => by
    have h2 := hg i hi
    rw [h1, List.getElem?_eq_getElem (by omega)] at h2
    obtain ⟨z, hz, _⟩ := DataW.trod_int he h2
    refine ⟨z, ?_⟩
    have : (cs.drop (i * 1)).take 1 = [cs[i]'(by omega)] := by
      rw [Nat.mul_one, List.drop_eq_getElem_cons (by omega)]; rfl
    rw [this] at hz
    simp at hz
    rw [List.getElem?_eq_getElem (by omega), hz]
  refine ⟨fun i => if h : i < n then Classical.choose (key i h) else 0, arrI_ext k _ n 0 cs hl (fun j hj => ?_)⟩
  rw [Nat.zero_add]
  simp only [hj, dif_pos]
  exact Classical.choose_spec (key j hj)
end

end Go.Proofs.YtkkfnlehlkiejaaGreatDoor

/- What an argument that was read gives, with its size: strings and slices have at most 2^47 - 4096 bytes. Generic. No condition. -/
namespace Go.Proofs.YtkkfnlehlkiejaaGreatDoor
open Go.ChangeShapes Go.WideShapes Go.ChangeAt Go.RowKit Go.Deep

theorem weightsAll_mem {H : Type} {P : Program} {e : TypeId} : ∀ {l : List (DataW H)} {d : DataW H}, d ∈ l → ∀ n ∈ d.weights P e, n ∈ DataW.weightsAll P e l
  | y :: l, d, hd, n, hn => by
    simp only [DataW.weightsAll, List.mem_append]
    rcases List.mem_cons.1 hd with rfl | h
    · exact .inl hn
    · exact .inr (weightsAll_mem h n hn)
/-- Cells that were read as a value of a type; no part is too great. -/
def Rw {H : Type} (enc : TypeId × Value → H) (P : Program) (W : World) (t : TypeId) (cs : List Value) : Prop := ∃ (fuel : Nat) (x : DataW H × List MemPlace), DataW.trod enc P W 0 (fun _ => true) true fuel t cs = some x ∧ ∀ n ∈ x.1.weights P t, n ≤ reachBytes
section
variable {H : Type} {enc : TypeId × Value → H} {P : Program} {W : World} {t : TypeId} {cs : List Value}
theorem Rw.rd (h : Rw enc P W t cs) : Rd enc P W t cs := by obtain ⟨f, x, h, _⟩ := h; exact ⟨f, x, h⟩
theorem Rw.of {v : Value} {d : DataW H} {ps : List MemPlace} {ts : List TypeId} {ds : List (DataW H)} (h : DataW.Trod enc P W 0 (fun _ => true) true t v d ps) (hz : (DataW.weightsEach P ts ds).all (· ≤ reachBytes) = true) (j : Nat) (ht : ts[j]? = some t) (hd : ds[j]? = some d) : Rw enc P W t v.cells.toList := by
  obtain ⟨fuel, h⟩ := h
  exact ⟨fuel, _, h, fun n hn => by simpa using List.all_eq_true.1 hz _ (DataW.weights_mem_each ht hd n hn)⟩
theorem Rw.field {fs : Array Field} (h : Rw enc P W t cs) (ht : P.underlying t = some (.struct fs)) {i : Nat} {f : Field} (hf : fs[i]? = some f) : Rw enc P W f.type ((cs.drop f.offset).take (P.cellsOf f.type)) := by
  obtain ⟨fuel, x, h, hw⟩ := h
  obtain ⟨xs, n, _, rfl, _, hl, hg⟩ := DataW.trod_struct ht h
  have hi : i < xs.length := by rw [hl]; exact (Array.getElem?_eq_some_iff.1 hf).1
  refine ⟨n, xs[i], by rw [hg i f hf, List.getElem?_eq_getElem hi], fun m hm => hw m ?_⟩
  simp only [DataW.weights, ht]
  refine DataW.weights_mem_each (j := i) (t := f.type) (d := xs[i].1) ?_ ?_ m hm
  · rw [List.getElem?_map, Array.getElem?_toList, hf]; rfl
  · rw [List.getElem?_map, List.getElem?_eq_getElem hi]; rfl
theorem Rw.int64 (h : Rw enc P W t cs) (ht : P.underlying t = some (.int .i64)) : ∃ n : Int, cs = [.int .i64 n] ∧ -9223372036854775808 ≤ n ∧ n ≤ 9223372036854775807 := by
  obtain ⟨n, h1, h2⟩ := h.rd.int ht
  have : IntKind.i64.min ≤ n ∧ n ≤ IntKind.i64.max := by simpa [Lit.wf] using h2
  exact ⟨n, h1, this⟩
theorem Rw.int8 (h : Rw enc P W t cs) (ht : P.underlying t = some (.int .u8)) : ∃ n : Int, cs = [.int .u8 n] ∧ 0 ≤ n ∧ n ≤ 255 := by
  obtain ⟨n, h1, h2⟩ := h.rd.int ht
  have : IntKind.u8.min ≤ n ∧ n ≤ IntKind.u8.max := by simpa [Lit.wf] using h2
  exact ⟨n, h1, this⟩
theorem Rw.bool (h : Rw enc P W t cs) (ht : P.underlying t = some .bool) : ∃ b, cs = [.bool b] := h.rd.bool ht
theorem Rw.str (h : Rw enc P W t cs) (ht : P.underlying t = some .string) : ∃ s : ByteArray, cs = [.string s] ∧ s.size ≤ 140737488351232 := by
  obtain ⟨fuel, x, h, hw⟩ := h
  obtain ⟨s, h1, rfl, _⟩ := DataW.trod_string ht h
  refine ⟨s, h1, ?_⟩
  have := hw s.data.toList.length (by simp [DataW.weights])
  simpa [reachBytes] using this
/-- A slice that was read: its elements. -/
theorem Rw.slice {e : TypeId} (h : Rw enc P W t cs) (ht : P.underlying t = some (.slice e)) (hp : 0 < P.cellsOf e) : ∃ (p : Option Addr) (n c : Nat), cs = [.slice p n c] ∧ n ≤ c ∧ c * P.bytesOf e ≤ 140737488351232 ∧ c ≤ 9223372036854775807 ∧
    ∀ i, i < n → ∃ (b o : Nat) (cs' : List Value), p = some ⟨b, o, none⟩ ∧ cs'.length = P.cellsOf e ∧ (∀ j v, cs'[j]? = some v → W.cell? ⟨b, o + i * P.cellsOf e + j, none⟩ = some v) ∧ Rw enc P W e cs' := by
  obtain ⟨fuel, x, h, hw⟩ := h
  rcases open_slice ht h with ⟨h0, _⟩ | ⟨a, len, cap, m, nn, D, Pl, hcs, hb, hl, hm, hmm, rfl, hi⟩
  · exact ⟨none, 0, 0, h0, by omega, by omega, by omega, fun i hi => by omega⟩
  · have hmc : m = cap := by rw [hmm]; rfl
    have hwt := hw ((len + (m - len)) * P.bytesOf e) (by simp [DataW.weights, ht])
    rw [hmc, show len + (cap - len) = cap by omega] at hwt
    refine ⟨some a, len, cap, hcs, hl, by simpa [reachBytes] using hwt, by unfold maxLen at hm; omega, fun i hilt => ?_⟩
    obtain ⟨cs', hc, ht'⟩ := hi i (by omega)
    obtain ⟨_, hlen, hat⟩ := World.cells?_some hc
    have hspot : a.spot = none := by
      obtain ⟨cs0, hc0, _⟩ := hi 0 (by omega)
      obtain ⟨_, hl0, ha0⟩ := World.cells?_some hc0
      have h00 := ha0 0 hp
      rw [List.getElem?_eq_getElem (by omega)] at h00
      have := World.cell?_spot h00
      simpa [Addr.add] using this
    obtain ⟨b, o, sp⟩ := a
    simp only at hspot
    subst hspot
    refine ⟨b, o, cs', rfl, hlen, fun j v hj => ?_, nn, _, ht', fun k hk => hw k ?_⟩
    · have hjl : j < P.cellsOf e := by have := (List.getElem?_eq_some_iff.1 hj).1; omega
      have := hat j hjl
      rw [addr_add2, hj] at this
      exact this
    · simp only [DataW.weights, ht, List.mem_cons, List.mem_append]
      exact .inr (.inl (weightsAll_mem (List.mem_map.2 ⟨i, List.mem_range.2 hilt, rfl⟩) k hk))
/-- A slice of strings that was read. -/
theorem Rw.strs {e : TypeId} (h : Rw enc P W t cs) (ht : P.underlying t = some (.slice e)) (he : P.underlying e = some .string) (h1 : P.cellsOf e = 1) : ∃ (p : Option Addr) (zs : List ByteArray) (c : Nat), cs = [.slice p zs.length c] ∧ zs.length ≤ c ∧ c * P.bytesOf e ≤ 140737488351232 ∧ StrP W p zs ∧ ∀ z ∈ zs, z.size ≤ 140737488351232 := by
  obtain ⟨p, n, c, hcs, hnc, hcb, _, hel⟩ := h.slice ht (by omega)
  have key : ∀ i, i < n → ∃ z : ByteArray, z.size ≤ 140737488351232 ∧ ∃ b o, p = some ⟨b, o, none⟩ ∧ W.cell? ⟨b, o + i, none⟩ = some (.string z) := fun i hi => by
    obtain ⟨b, o, cs', hp, hl, hc, hr⟩ := hel i hi
    obtain ⟨z, rfl, hz⟩ := hr.str he
    have := hc 0 _ rfl
    rw [h1] at this
    exact ⟨z, hz, b, o, hp, by simpa using this⟩
  have hex : ∃ g : Nat → ByteArray, ∀ i, i < n → (g i).size ≤ 140737488351232 ∧ ∃ b o, p = some ⟨b, o, none⟩ ∧ W.cell? ⟨b, o + i, none⟩ = some (.string (g i)) := by
    refine ⟨fun i => if h : i < n then Classical.choose (key i h) else ByteArray.empty, fun i hi => ?_⟩
    simp only [hi, dif_pos]
    exact Classical.choose_spec (key i hi)
  obtain ⟨g, hg⟩ := hex
  refine ⟨p, (List.range n).map g, c, by simpa using hcs, by simpa using hnc, hcb, fun j z hj => ?_, fun z hz => ?_⟩
  · rw [List.getElem?_map] at hj
    rcases Nat.lt_or_ge j n with h | h
    · simp [h] at hj
      subst hj
      exact (hg j h).2
    · simp [h] at hj
  · obtain ⟨i, hi, rfl⟩ := List.mem_map.1 hz
    exact (hg i (List.mem_range.1 hi)).1
/-- An array of bytes that was read. -/
theorem Rw.bytes {n : Nat} {e : TypeId} (h : Rw enc P W t cs) (ht : P.underlying t = some (.array n e)) (he : P.underlying e = some (.int .u8)) (h1 : P.cellsOf e = 1) (hn : P.cellsOf t = n) : ∃ f : Nat → Int, cs = arrI .u8 f n 0 ∧ ∀ j, 0 ≤ f j ∧ f j ≤ 255 := by
  obtain ⟨fuel, x, h, _⟩ := h
  obtain ⟨xs, m, _, _, hl, hxl, hg⟩ := DataW.trod_array ht h
  rw [hn] at hl
  have key : ∀ i, i < n → ∃ z : Int, cs[i]? = some (.int .u8 z) ∧ 0 ≤ z ∧ z ≤ 255 := fun i hi => by
    have h2 := hg i hi
    rw [h1, List.getElem?_eq_getElem (by omega)] at h2
    obtain ⟨z, hz, _, hw⟩ := DataW.trod_int he h2
    refine ⟨z, ?_, ?_⟩
    · have : (cs.drop (i * 1)).take 1 = [cs[i]'(by omega)] := by
        rw [Nat.mul_one, List.drop_eq_getElem_cons (by omega)]; rfl
      rw [this] at hz
      simp at hz
      rw [List.getElem?_eq_getElem (by omega), hz]
    · have : IntKind.u8.min ≤ z ∧ z ≤ IntKind.u8.max := by simpa [Lit.wf] using hw
      exact this
  refine ⟨fun i => if h : i < n then Classical.choose (key i h) else 0, arrI_ext .u8 _ n 0 cs hl (fun j hj => ?_), fun j => ?_⟩
  · rw [Nat.zero_add]
    simp only [hj, dif_pos]
    exact (Classical.choose_spec (key j hj)).1
  · by_cases h : j < n
    · simp only [h, dif_pos]; exact (Classical.choose_spec (key j h)).2
    · simp only [h, dif_neg, not_false_iff]; omega
end

end Go.Proofs.YtkkfnlehlkiejaaGreatDoor
