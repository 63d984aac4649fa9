/- The contracts of wildmat's ParseList, Len, Verdict and Selects, by plain functions. Texts have at most 2^30 bytes; the library's variable MaxLen holds a number. -/
import Derived.Test.YtcpjajjocmpkjaaDoorZ05
import Derived.Test.YtcpjajjocmpkjaaDoorCards
import Derived.Test.YtcpjajjocmpkjaaDoorTie
import Derived.Test.YtcpjajjocmpkjaaDoorZ03
import Derived.WalkKit
import Derived.ProofKit
import Derived.OpenShut
import Derived.Shelf.Vars
import Derived.Deep.Slices
import Derived.Deep.DeepHandedRow
import Derived.Lib.LaidTab
import Derived.Lib.Bytealg
import Derived.Sort.Statements
import Derived.Test.YtcpjajjocmpkjaaDoorProg
import Derived.Test.YtcpjajjocmpkjaaDoorZ02
import Derived.Test.YtcpjajjocmpkjaaDoorZ04
import Derived.KernelRfl
namespace Go.Proofs.YtcpjajjocmpkjaaDoor
open Go.RowKit

/-- The library's variable MaxLen holds a number. -/
def GW (w : World) : Prop := ∃ m, w.cell? ⟨0, 0, none⟩ = some (.int .i64 m)
theorem GW.kp {M : Nat → Prop} {w w' : World} (h : GW w) (hk : Kp M w w') (hm : ¬ M 0) : GW w' := by
  obtain ⟨m, h⟩ := h; exact ⟨m, hk.cell' h hm⟩

/-- An entry of a list. -/
structure Ent where
  t : ByteArray
  els : List El
  v : Int
def entC : List Nat → List Ent → List Value
  | b :: bs, e :: es => .pointer (some ⟨b, 0, none⟩) :: .int .i64 e.v :: entC bs es
  | _, _ => []
theorem entC_length : ∀ (bs : List Nat) (es : List Ent), bs.length = es.length → (entC bs es).length = es.length * 2
  | [], [], _ => rfl
  | b :: bs, e :: es, h => by simp only [entC, List.length_cons, entC_length bs es (by simpa using h)]; omega
  | [], _ :: _, h => by simp at h
  | _ :: _, [], h => by simp at h
theorem entC_append : ∀ (bs : List Nat) (es : List Ent) (b : Nat) (e : Ent), bs.length = es.length → entC (bs ++ [b]) (es ++ [e]) = entC bs es ++ [.pointer (some ⟨b, 0, none⟩), .int .i64 e.v]
  | [], [], _, _, _ => rfl
  | b :: bs, e :: es, b', e', h => by simp only [List.cons_append, entC, entC_append bs es b' e' (by simpa using h)]
  | [], _ :: _, _, _, h => by simp at h
  | _ :: _, [], _, _, h => by simp at h
theorem entC_get : ∀ (bs : List Nat) (es : List Ent) (k : Nat) (b : Nat) (e : Ent), bs[k]? = some b → es[k]? = some e → (entC bs es)[k * 2]? = some (.pointer (some ⟨b, 0, none⟩)) ∧ (entC bs es)[k * 2 + 1]? = some (.int .i64 e.v)
  | [], _, k, b, e, h, _ => by simp at h
  | _ :: _, [], k, b, e, _, h => by simp at h
  | b :: bs, e :: es, 0, b', e', h, h' => by simp at h h'; subst h; subst h'; exact ⟨rfl, rfl⟩
  | b :: bs, e :: es, k + 1, b', e', h, h' => by
    have := entC_get bs es k b' e' (by simpa using h) (by simpa using h')
    rw [show (k + 1) * 2 = k * 2 + 1 + 1 by omega]
    simpa [entC] using this
/-- A list of patterns in the memory. -/
def ListR (D : Nat → Prop) (w : World) (b : Nat) (s : ByteArray) (es : List Ent) : Prop :=
  ∃ (p : Option Addr) (n c : Nat) (bs : List Nat), w.heap[b]? = some (.cells #[.string s, .slice p n c] 110 (0, 0)) ∧ D b ∧ w.ownsRow 0 114 2 (.slice p n c) n (entC bs es) ∧ (∀ k, (Value.slice p n c).ownBlock = some k → D k) ∧
    bs.length = es.length ∧ ∀ (k b' : Nat) (e : Ent), bs[k]? = some b' → es[k]? = some e → PatR D w b' e.t e.els
theorem ListR.kp {D M : Nat → Prop} {w w' : World} {b : Nat} {s : ByteArray} {es : List Ent} (h : ListR D w b s es) (hk : Kp M w w') (hm : ∀ k, D k → k < w.heap.size → ¬ M k) : ListR D w' b s es := by
  obtain ⟨p, n, c, bs, h1, h2, h3, h4, h5, h6⟩ := h
  exact ⟨p, n, c, bs, hk.blk h1 (hm b h2 (block_lt h1)), h2, owns_kp h3 hk (fun k hk => hm k (h4 k hk) (own_lt h3 hk)), h4, h5, fun k b' e hb he => (h6 k b' e hb he).kp hk hm⟩
theorem ListR.mono {D D' : Nat → Prop} {w : World} {b : Nat} {s : ByteArray} {es : List Ent} (h : ListR D w b s es) (hd : ∀ k, D k → k < w.heap.size → D' k) : ListR D' w b s es := by
  obtain ⟨p, n, c, bs, h1, h2, h3, h4, h5, h6⟩ := h
  exact ⟨p, n, c, bs, h1, hd b h2 (block_lt h1), h3, fun k hk => hd k (h4 k hk) (own_lt h3 hk), h5, fun k b' e hb he => (h6 k b' e hb he).mono hd⟩

/-- The parts of a text between commas. -/
def partsS (s : ByteArray) : List ByteArray := Lib.splitB ⟨#[44]⟩ 0 (Lib.countB s ⟨#[44]⟩) s
def markI (x : ByteArray) : Int := if Lib.hasPrefix x.data.toList [33] = true then 2 else if Lib.hasPrefix x.data.toList [64] = true then 3 else 1
def bareS (x : ByteArray) : ByteArray := if markI x = 1 then x else x.extract 1 x.size
/-- The entries of a list, or the offset and the kind of the error. -/
def entsS : List ByteArray → Int → List Ent → List Ent ⊕ (Int × Int)
  | [], _, acc => .inl acc
  | x :: r, at_, acc => if acc.length = 64 then .inr (at_, 9) else
    match compileR (bareS x) with
    | .inr (o, e) => .inr (at_ + x.size - (bareS x).size + o, e)
    | .inl els => entsS r (at_ + x.size + 1) (acc ++ [⟨bareS x, els, markI x⟩])
def listR (s : ByteArray) : List Ent ⊕ (Int × Int) := if s.size = 0 then .inr (0, 4) else entsS (partsS s) 0 []

theorem splitB_le (sep : ByteArray) : ∀ (k : Nat) (s x : ByteArray), x ∈ Lib.splitB sep 0 k s → x.size ≤ s.size
  | 0, s, x, h => by simp [Lib.splitB] at h; subst h; exact Nat.le_refl _
  | k + 1, s, x, h => by
    unfold Lib.splitB at h
    split at h
    · simp at h; subst h; exact Nat.le_refl _
    · rcases List.mem_cons.1 h with rfl | h
      · rw [ByteArray.size_extract]; omega
      · have := splitB_le sep k _ x h
        rw [ByteArray.size_extract] at this
        omega
theorem compS_len (s : ByteArray) : ∀ (f k : Nat) (acc els : List El), compS s f k acc = .inl els → els.length ≤ acc.length + f
  | 0, k, acc, els, h => by simp [compS] at h; subst h; omega
  | f + 1, k, acc, els, h => by
    unfold compS at h
    have ih := compS_len s f
    repeat' split at h
    all_goals first
      | (have := ih _ _ _ h; simp at this; omega)
      | (cases h; omega)
      | (cases h)
theorem compileR_len {s : ByteArray} {els : List El} (h : compileR s = .inl els) : els.length ≤ 80 := by
  unfold compileR at h
  split at h
  · cases h
  · split at h
    · cases h
    · have := compS_len s _ _ _ _ h; simp at this; omega
theorem compileR_off (s : ByteArray) (o : Nat) (e : Int) (h : compileR s = .inr (o, e)) : o ≤ 80 ∧ e ≠ 0 := by
  have key : ∀ (f k : Nat) (acc : List El), s.size ≤ 80 → compS s f k acc = .inr (o, e) → o ≤ 80 ∧ e ≠ 0 := by
    intro f
    induction f with
    | zero => intro k acc _ h; simp [compS] at h
    | succ f ih =>
      intro k acc hs h
      unfold compS at h
      repeat' split at h
      all_goals first
        | exact ih _ _ hs h
        | (simp at h; obtain ⟨rfl, rfl⟩ := h; exact ⟨by omega, by decide⟩)
        | (cases h)
  unfold compileR at h
  split at h
  · cases h; exact ⟨by omega, by decide⟩
  · split at h
    · cases h; exact ⟨by omega, by decide⟩
    · exact key _ _ _ (by omega) h

/-- A list that is being made. -/
def LstSt (w : World) (nb : Nat) (s : ByteArray) (es : List Ent) : Prop :=
  ∃ (p : Option Addr) (n c : Nat) (bs : List Nat), w.heap[nb]? = some (.cells #[.string s, .slice p n c] 110 (0, 0)) ∧ w.ownsRow (nb + 1) 114 2 (.slice p n c) n (entC bs es) ∧
    bs.length = es.length ∧ ∀ (k b' : Nat) (e : Ent), bs[k]? = some b' → es[k]? = some e → PatR (fun k => nb < k) w b' e.t e.els
theorem bareS_le (x : ByteArray) : (bareS x).size ≤ x.size := by
  unfold bareS
  split
  · exact Nat.le_refl _
  · rw [ByteArray.size_extract]; omega
theorem hasPrefix1 {x : ByteArray} {c : UInt8} (h : Lib.hasPrefix x.data.toList [c] = true) : 1 ≤ x.size := by
  have h1 : (x.data.toList).length = x.size := x.data.length_toList
  cases hx : x.data.toList with
  | nil => rw [hx] at h; simp [Lib.hasPrefix] at h
  | cons a r => rw [hx] at h1; simp at h1; omega

set_option maxHeartbeats 1000000 in
theorem parseList_any (s : ByteArray) (w : World) (hs : s.size ≤ 1073741824) (hG : GW w) : Calls Tryd.prog 30 #[.string s] w fun e w' => K0 w w' ∧
    match listR s with
    | .inl es => ∃ b, e = .returned (.tuple #[.pointer (some ⟨b, 0, none⟩), .int .i64 0, .int .i64 0]) ∧ ListR (fun k => w.heap.size ≤ k) w' b s es
    | .inr (o, x) => e = .returned (.tuple #[.pointer none, .int .i64 o, .int .i64 x]) := by
  refine vc_parseList s w _ ?_
  unfold VC_parseList
  rw [toList_nil]
  refine bsp_intro (fun h0 => ?_) (fun h0 => fun nb w1 hn => ?_)
  · have h0 : s.size = 0 := by simpa using h0
    refine ⟨.refl _ _, ?_⟩
    simp only [listR, h0, if_true]
  have h0 : ¬ s.size = 0 := by simpa using h0
  have hR : listR s = entsS (partsS s) 0 [] := by simp only [listR, h0, if_false]
  rw [hR]
  obtain ⟨mm, hG1⟩ := hG.kp (hn.kp (fun _ => False)) (fun h => h)
  refine ⟨(Tryd.strings_Split s ⟨#[44]⟩ mm w1 (by omega) hG1 (by decide)).mono fun e w2 ⟨he, hw2⟩ => ?_⟩
  have hlen : (partsS s).length = Lib.countB s ⟨#[44]⟩ + 1 := Lib.splitB_all ⟨#[44]⟩ (by decide) 0 _ s rfl
  have hle : ∀ x ∈ partsS s, x.size ≤ s.size := fun x hx => splitB_le _ _ _ _ hx
  have hn2 : NewB w1 (.cells ((partsS s).map .string).toArray 9) w1.heap.size w2 := ⟨rfl, hw2⟩
  rw [← hlen] at he
  generalize partsS s = ps at *
  clear hw2 hlen
  generalize w1.heap.size = np at he hn2
  refine ⟨_, _, _, he, ?_⟩
  clear he
  have hnb : nb = w.heap.size := hn.hn
  have hw2 : K0 w w2 := (hn.kp _).trans (hn2.kp _)
  have hnp : nb < np := Nat.lt_of_lt_of_le (block_lt hn.block) hn2.ge
  refine ⟨fun vs w' => ∃ (k : Nat) (at_ : Int) (es : List Ent), vs = [.int .i64 at_, .int .i64 k] ∧ k ≤ ps.length ∧ k ≤ 64 ∧ es.length = k ∧ 0 ≤ at_ ∧ at_ ≤ k * 2147483648 ∧ entsS (ps.drop k) at_ es = entsS ps 0 [] ∧
      w'.heap[np]? = some (.cells (ps.map .string).toArray 9 (0, 0)) ∧ LstSt w' nb s es ∧ K0 w w', fun vs _ => (match vs with | [_, .int _ x] => ps.length - x.toNat | _ => 0),
    ⟨0, 0, [], rfl, by omega, by omega, rfl, by omega, by omega, rfl, hn2.block, ⟨none, 0, 0, [], (hn2.kp (fun _ => False)).blk hn.block (fun h => h), World.ownsRow_nil _ _ _ _, rfl, fun k b' e h _ => by simp at h⟩, hw2⟩,
    fun a0 x_1 wA ⟨k, at_, es, hv, hk, hk64, hes, hat0, hat1, hS, hpA, hstA, hwA⟩ => ?_⟩
  simp only [List.cons.injEq, Value.int.injEq, true_and, and_true] at hv
  obtain ⟨rfl, rfl⟩ := hv
  refine bsp_intro (fun hlt => ?_) (fun hge => ?_)
  · have hlt : k < ps.length := by simpa using hlt
    obtain ⟨y, hy⟩ : ∃ y, ps[k]? = some y := ⟨_, List.getElem?_eq_getElem hlt⟩
    have hdr : ps.drop k = y :: ps.drop (k + 1) := by
      rw [List.drop_eq_getElem_cons hlt]
      congr 1
      rw [List.getElem?_eq_getElem hlt] at hy
      simpa using hy
    have hysz : y.size ≤ 1073741824 := by have := hle y (List.mem_of_getElem? hy); omega
    have hbsz := bareS_le y
    rw [hdr] at hS
    have e0 : (k : Int).toNat = k := by omega
    show (0 ≤ (k : Int) ∧ (k : Int) < (ps.length : Int)) ∧ _
    refine ⟨⟨by omega, by omega⟩, y, by rw [e0, Nat.zero_add]; exact cell_at hpA (by simp [hy]), ?_⟩
    obtain ⟨p, n, c, bs, hb, ho, hbl, hpat⟩ := hstA
    have hn' := ho.1
    rw [entC_length bs es hbl] at hn'
    have hn' : n = k := by omega
    subst hn'
    refine ⟨p, n, c, cell_at hb rfl, ?_⟩
    refine bsp_intro (fun h64 => ⟨hwA, ?_⟩) (fun h64 => fun n_3 w3 hn3 => ?_)
    · have h64 : n = 64 := by simp at h64; omega
      rw [← hS]
      simp [entsS, hes, h64]
    have h64 : ¬ n = 64 := by simp at h64; omega
    have h3n : wA.heap.size ≤ n_3 := hn3.ge
    refine ⟨WrL_block hn3.block (by simp), fun w4 hp4 => ?_⟩
    have hb4 : w4.heap[n_3]? = some (.cells #[.pointer none, .int .i64 1] 114 (0, 0)) := hp4.block hn3.block
    have hk4 : K0 wA w4 := (hn3.kp _).fresh hp4.kp (fun i hi e => by omega)
    refine ⟨fun vs w5 => vs = [.string (bareS y)] ∧ w5.heap[n_3]? = some (.cells #[.pointer none, .int .i64 (markI y)] 114 (0, 0)) ∧ K0 wA w5, ?_, fun x_3 w5 ⟨hx3, hb5, hk5⟩ => ?_⟩
    · refine bsp_intro (fun h1 => ?_) (fun h1 => bsp_intro (fun h2 => ?_) (fun h2 => ?_))
      · have hm : markI y = 2 := by unfold markI; rw [if_pos h1]
        have hb' : bareS y = y.extract 1 y.size := by unfold bareS; rw [hm, if_neg (by decide)]
        refine ⟨fun _ => True, trivial, ⟨by decide, by have := hasPrefix1 h1; omega⟩, cell_wr (blk_drew hb4) (by simp), fun w5 hp5 => ⟨by rw [hb'], ?_, hk4.drew.fresh hp5.kp (fun i hi e => by omega)⟩⟩
        rw [hm]; exact hp5.block (blk_drew hb4)
      · have hm : markI y = 3 := by unfold markI; rw [if_neg (by rw [h1]; decide), if_pos h2]
        have hb' : bareS y = y.extract 1 y.size := by unfold bareS; rw [hm, if_neg (by decide)]
        refine ⟨fun _ => True, trivial, ⟨by decide, by have := hasPrefix1 h2; omega⟩, cell_wr (blk_drew hb4) (by simp), fun w5 hp5 => ⟨by rw [hb'], ?_, hk4.drew.fresh hp5.kp (fun i hi e => by omega)⟩⟩
        rw [hm]; exact hp5.block (blk_drew hb4)
      · have hm : markI y = 1 := by unfold markI; rw [if_neg (by rw [h1]; decide), if_neg (by rw [h2]; decide)]
        have hb' : bareS y = y := by unfold bareS; rw [if_pos hm]
        exact ⟨by rw [hb'], by rw [hm]; exact hb4, hk4⟩
    simp only [List.cons.injEq, Value.string.injEq, and_true] at hx3
    subst hx3
    have hSy : entsS (y :: ps.drop (n + 1)) a0 es = match compileR (bareS y) with
        | .inr (o, e) => .inr (a0 + y.size - (bareS y).size + o, e)
        | .inl els => entsS (ps.drop (n + 1)) (a0 + y.size + 1) (es ++ [⟨bareS y, els, markI y⟩]) := by
      simp [entsS, hes, h64]
    rw [hSy] at hS
    refine ⟨(compile_any (bareS y) w5).mono fun e w6 ⟨hk6, hce⟩ => ?_⟩
    have hk6' : K0 wA w6 := hk5.trans hk6
    have hb6 := hk6.blk hb5 (fun h => h)
    cases hc : compileR (bareS y) with
    | inr oe =>
      obtain ⟨o, er⟩ := oe
      rw [hc] at hce hS
      obtain ⟨ho80, her⟩ := compileR_off _ _ _ hc
      refine ⟨none, o, er, hce, ?_⟩
      refine bsp_intro (fun _ => ⟨hwA.trans hk6', ?_⟩) (fun h => absurd h (by simpa using her))
      rw [← hS]
      simp only
      rw [wr64 (x := a0 + (y.size : Int)) (by omega) (by omega), wr64 (x := a0 + (y.size : Int) - ((bareS y).size : Int)) (by omega) (by omega), wr64 (by omega) (by omega)]
    | inl els =>
      rw [hc] at hce hS
      simp only at hce hS
      obtain ⟨b', he', hpatb⟩ := hce
      refine ⟨some ⟨b', 0, none⟩, 0, 0, he', ?_⟩
      refine bsp_intro (fun h => absurd h (by decide)) (fun _ => ⟨cell_wr hb6 (by simp), fun w7 hp7 => ?_⟩)
      have hb7 : w7.heap[n_3]? = some (.cells #[.pointer (some ⟨b', 0, none⟩), .int .i64 (markI y)] 114 (0, 0)) := hp7.block hb6
      have hk7 : K0 wA w7 := hk6'.fresh hp7.kp (fun i hi e => by omega)
      have hn35 : n_3 < w5.heap.size := block_lt hb5
      have hpat7 : PatR (fun k => w5.heap.size ≤ k) w7 b' (bareS y) els := hpatb.kp hp7.kp (fun k hk _ e => by omega)
      have hbA : w7.drew.heap[nb]? = some (.cells #[.string s, .slice p n c] 110 (0, 0)) := blk_drew (hk7.blk hb (fun h => h))
      have hoA : w7.drew.ownsRow (nb + 1) 114 2 (.slice p n c) n (entC bs es) := owns_kp ho hk7.drew (fun _ _ h => h)
      refine ⟨fun w' => w'.heap[nb]? = some (.cells #[.string s, .slice p n c] 110 (0, 0)) ∧ w'.heap[n_3]? = some (.cells #[.pointer (some ⟨b', 0, none⟩), .int .i64 (markI y)] 114 (0, 0)), ⟨hbA, blk_drew hb7⟩,
        p, n, c, fun w' h => cell_at h.1 rfl, some ⟨b', 0, none⟩, markI y, fun w' h => AtL_block h.2 rfl, fun n_5 w8 hn8 => ⟨⟨(hn8.kp (fun _ => False)).blk hbA (fun h => h), (hn8.kp (fun _ => False)).blk (blk_drew hb7) (fun h => h)⟩, ?_⟩⟩
      refine app1 hoA (block_lt hbA) hn8 rfl (fun u hu => by simp at hu; rcases hu with rfl | rfl <;> rfl) (by omega) (by omega) (fun p' c' w9 ho9 hk9 _ => ?_)
      have hne : ∀ k, (Value.slice p n c).ownBlock = some k → nb < k := fun k hk => own_ge hoA hk
      have hltA : ∀ k, (Value.slice p n c).ownBlock = some k → k < wA.heap.size := fun k hk => own_lt ho hk
      have hb9 := hk9.blk hbA (fun e => by have := hne _ e; omega)
      refine ⟨cell_wr hb9 (by simp), fun wB hpB => ?_⟩
      have hkB : Kp (fun k => (Value.slice p n c).ownBlock = some k ∨ k = nb) w7.drew wB := (hk9.mono fun _ _ h => .inl h).trans (hpB.kp.mono fun _ _ h => .inr h)
      have hwB : K0 w wB := (hwA.trans hk7.drew).fresh hkB (fun i hi h => by rcases h with h | h; have := hne i h; omega; omega)
      rw [wr64 (x := (y.size : Int) + 1) (by omega) (by omega), wr64 (x := a0 + ((y.size : Int) + 1)) (by omega) (by omega), wr64 (x := (n : Int) + 1) (by omega) (by omega)]
      refine ⟨⟨n + 1, a0 + (y.size + 1), es ++ [⟨bareS y, els, markI y⟩], by simp, by omega, by omega, by simp [hes], by omega, by omega, ?_, ?_, ?_, hwB⟩, by simp; omega⟩
      · rw [← hS, ← Int.add_assoc]
      · refine hkB.blk (blk_drew (hk7.blk hpA (fun h => h))) (fun h => ?_)
        rcases h with h | h
        · obtain ⟨cc, hcc⟩ := own_type hoA h
          rw [blk_drew (hk7.blk hpA (fun h => h))] at hcc
          simp at hcc
        · omega
      · have hTy : ∀ k c' t' f', ((Value.slice p n c).ownBlock = some k ∨ k = nb) → w7.drew.heap[k]? = some (.cells c' t' f') → t' ≠ 139 ∧ t' ≠ 174 := fun k c' t' f' hk hh => by
          rcases hk with hk | rfl
          · obtain ⟨cc, hcc⟩ := own_type hoA hk
            rw [hcc] at hh
            simp only [Option.some.injEq, Obj.cells.injEq] at hh
            rw [← hh.2.1]; decide
          · rw [hbA] at hh
            simp only [Option.some.injEq, Obj.cells.injEq] at hh
            rw [← hh.2.1]; decide
        refine ⟨p', n + 1, c', bs ++ [b'], hpB.block hb9, ?_, by simp [hbl], fun k b2 e2 h1 h2 => ?_⟩
        · rw [entC_append bs es b' _ hbl]
          exact owns_kp ho9 hpB.kp (fun k hk e => by have := own_ge ho9 hk; omega)
        · rcases Nat.lt_or_ge k es.length with hlt' | hge'
          · rw [List.getElem?_append_left (by omega)] at h1
            rw [List.getElem?_append_left (by omega)] at h2
            exact ((hpat k b2 e2 h1 h2).kp hk7.drew (fun _ _ _ h => h)).kpT hkB hTy
          · have hkk : k = es.length := by
              rcases Nat.lt_or_ge k (es.length + 1) with h' | h'
              · omega
              · rw [List.getElem?_eq_none (by simp; omega)] at h2; cases h2
            subst hkk
            rw [List.getElem?_append_right (by omega)] at h1 h2
            rw [hbl] at h1
            simp at h1 h2
            subst h1 h2
            have : PatR (fun k => w5.heap.size ≤ k) w7.drew b' (bareS y) els := hpat7
            have hnw5 : nb < w5.heap.size := Nat.lt_of_lt_of_le (block_lt hb) hk5.size
            exact (this.kpT hkB hTy).mono fun k hk _ => by omega
  · have hge : ¬ k < ps.length := by simpa using hge
    obtain rfl : k = ps.length := by omega
    refine ⟨hwA, ?_⟩
    rw [← hS, List.drop_length]
    obtain ⟨p, n, c, bs, hb, ho, hbl, hpat⟩ := hstA
    exact ⟨nb, rfl, p, n, c, bs, hb, by omega, ⟨ho.1, ho.2.imp id fun ⟨g, cap, cur, a1, a2, a3⟩ => ⟨g, cap, cur, a1, by omega, a3⟩⟩, fun k hk => (by have := own_ge ho hk; omega), hbl, fun k b' e h1 h2 => (hpat k b' e h1 h2).mono fun k hk _ => by omega⟩

end Go.Proofs.YtcpjajjocmpkjaaDoor

/- From contracts on worlds to the given statements: the last step of a law, the listed variables' world. No condition. -/
namespace Go.Proofs.YtcpjajjocmpkjaaDoor
open Go.ChangeShapes Go.WideShapes Go.ChangeAt Go.RowKit Go.Deep

theorem own : ownKnob Tryd.prog.godebug = none := by kernel_rfl
/-- The library's variable holds a number. -/
theorem gw_of {w : World} (h : w.ShapedOpen Tryd.prog) : GW w := cell_of_shapedOpen_int (zero := #[.int .i64 0]) (t := 3) h (of_decide_eq_true (by kernel_rfl)) (by kernel_rfl) rfl (by kernel_rfl) (by kernel_rfl) Tryd.underlying3
theorem trodAll_kept {H : Type} {enc : TypeId × Value → H} {P : Program} {w w' : World} (hk : K0 w w') {base : Nat} {sp : Nat → Bool} : ∀ (ts : List TypeId) (vs : List Value) (ds : List (DataW H)) (ps : List MemPlace),
    (∀ t ∈ ts, posT P 12 t = true) → DataW.TrodAll enc P w base (fun _ => true) true ts vs ds ps → (∀ p ∈ ps, sp p.block = true) → DataW.TrodAll enc P w' base sp true ts vs ds ps
  | [], [], [], ps, _, h, _ => h
  | t :: ts, v :: vs, d :: ds, ps, ht, ⟨p, q, ⟨fuel, h1⟩, h2, h3⟩, hsp => by
    subst h3
    exact ⟨p, q, ⟨fuel, trod_kept hk fuel t 12 _ _ (ht t (by simp)) h1 (fun x hx => hsp x (by simp [hx]))⟩, trodAll_kept hk ts vs ds q (fun u hu => ht u (by simp [hu])) h2 (fun x hx => hsp x (by simp [hx])), rfl⟩
  | [], [], _ :: _, _, _, h, _ => h.elim
  | [], _ :: _, _, _, _, h, _ => h.elim
  | _ :: _, [], _, _, _, h, _ => h.elim
  | _ :: _, _ :: _, [], _, _, h, _ => h.elim
section
variable {H : Type} {enc : TypeId × Value → H} {P : Program}
theorem post_of_k0 {f : Func} {s : ChangeSpec} {apart fresh handsOn again : Bool} {W W' : World} {args : Array Value} {ds gs : List (DataW H)} {before : List MemPlace} (hpos : f.params.toList.all (posT P 12) = true) {tb : TypeId} (htb : P.underlying tb = some .bool) (hrt : f.resultTypes = #[tb])
    (hW : DataW.Whole enc P f.params.toList s.vars apart W args.toList ds gs before) (hvars : s.vars = [])
    (hfn : (s.fn H (ds ++ gs)).results = [.lit (.bool true)] ∧ (s.fn H (ds ++ gs)).args = ds ∧ (s.fn H (ds ++ gs)).vars = []) (hk : K0 W W') :
    s.post enc P f apart fresh handsOn again W args (.bool true) W' := by
  have hb : Below W.heap.size W W' := hk.below
  have hW0 := hW
  obtain ⟨p, q, hA, hV, hps, hz, hn⟩ := hW
  rw [hvars] at hV
  have hq : gs = [] ∧ q = [] := by
    cases gs with
    | nil => exact ⟨rfl, hV⟩
    | cons g r => exact hV.elim
  obtain ⟨rfl, rfl⟩ := hq
  rw [List.append_nil] at hps
  subst hps
  have hlt : ∀ x ∈ before, x.block < W.heap.size := fun x hx => hW0.lt x hx
  have hold : ∀ x ∈ before, (fun b => decide (b < W.heap.size)) x.block = true := fun x hx => by simpa using hlt x hx
  have hargs : ∀ sp : Nat → Bool, (∀ x ∈ before, sp x.block = true) → DataW.TrodAll enc P W' 0 sp true f.params.toList args.toList (s.fn H (ds ++ [])).args before := fun sp hsp => by
    rw [hfn.2.1]; exact trodAll_kept hk _ _ _ _ (fun t ht => List.all_eq_true.1 hpos t ht) hA hsp
  have hvs : ∀ sp : Nat → Bool, DataW.TrodVars enc P W' sp s.vars (s.fn H (ds ++ [])).vars [] := fun sp => by rw [hvars, hfn.2.2]; exact rfl
  have hres : ∀ (b : Nat) (sp : Nat → Bool) (hd : Bool), DataW.TrodAll enc P W' b sp hd f.resultTypes.toList ((Value.bool true).resultList f.resultTypes.size) (s.fn H (ds ++ [])).results [] := fun b sp hd => by
    rw [hfn.1, hrt]; exact trodAll_cons_mk (shut_bool htb _) trodAll_mk0
  refine ⟨ds, [], before, [], before, [], hW0, hres _ _ _, hargs _ hold, hvs _, World.keptBut_mono (fun x hx => ⟨hx, Or.inr (by simpa using hx)⟩) (hb.frame (· ∈ before)), fun _ => ?_⟩
  refine ⟨?_, _, _, ([] ++ before) ++ [], ⟨[] ++ before, [], trodAll_append (hargs _ (fun _ _ => rfl)) (hres _ _ _), hvs _, rfl, ?_, ?_⟩, ?_⟩
  · intro j t r hj hr
    rw [hrt] at hj hr
    have : j = 0 := by
      rcases Nat.eq_zero_or_pos j with h | h
      · exact h
      · simp [Array.getElem?_eq_none (xs := #[tb]) (i := j) (by simp; omega)] at hj
    subst this
    simp at hj
    subst hj
    have : r = .bool true := by simpa [Value.resultList] using hr.symm
    subst this
    exact okWide_bool_mk htb _
  · intro b off hp
    have hin : MemPlace.cell b off ∈ before := by simpa using hp
    rw [hb.frozen (hlt _ hin)]
    exact hz b off hin
  · intro ha
    have := hn ha
    simpa using this
  · intro x hx _
    simpa using hx
end

/-! ### A world that holds the listed tables -/
def flatD {H : Type} : Nat → DataW H → List Value
  | 0, _ => []
  | _ + 1, .lit (.int k n) => [.int k n]
  | n + 1, .agg l => l.flatMap (flatD n)
  | _ + 1, _ => []
def setRow (cs : List Value) : Obj → Obj
  | .cells _ t frozen => .cells cs.toArray t frozen
  | o => o
noncomputable def laidWorld (os : Os) : World :=
  { World.holding Tryd.prog os ⟨#[], #[], []⟩ with heap := ((World.holding Tryd.prog os ⟨#[], #[], []⟩).heap.modify 1 (setRow (flatD 3 Rows.laid_unicode_utf8_first))).modify 2 (setRow (flatD 3 (Rows.laid_unicode_utf8_acceptRanges (H := Unit)))) }

end Go.Proofs.YtcpjajjocmpkjaaDoor

/- The contracts of wildmat's Len, Verdict and Selects, by plain functions. -/
namespace Go.Proofs.YtcpjajjocmpkjaaDoor
open Go.RowKit

theorem entsS_ok : ∀ (ps : List ByteArray) (a : Int) (acc es : List Ent), entsS ps a acc = .inl es → acc.length ≤ 64 → (∀ e ∈ acc, e.els.length ≤ 80) → es.length ≤ 64 ∧ ∀ e ∈ es, e.els.length ≤ 80
  | [], a, acc, es, h, h1, h2 => by simp [entsS] at h; subst h; exact ⟨h1, h2⟩
  | x :: r, a, acc, es, h, h1, h2 => by
    unfold entsS at h
    split at h
    · cases h
    · split at h
      · cases h
      · rename_i els hc
        refine entsS_ok r _ _ es h (by simp; omega) (fun e he => ?_)
        rcases List.mem_append.1 he with he | he
        · exact h2 e he
        · simp at he; subst he; exact compileR_len hc
theorem listR_ok {s : ByteArray} {es : List Ent} (h : listR s = .inl es) : es.length ≤ 64 ∧ ∀ e ∈ es, e.els.length ≤ 80 := by
  unfold listR at h
  split at h
  · cases h
  · exact entsS_ok _ _ _ _ h (by simp) (by simp)
theorem ListR.len {D : Nat → Prop} {w : World} {b : Nat} {s : ByteArray} {es : List Ent} (h : ListR D w b s es) : ∃ p c, w.cell? ⟨b, 1, none⟩ = some (.slice p es.length c) := by
  obtain ⟨p, n, c, bs, h1, h2, h3, h4, h5, h6⟩ := h
  have hn := h3.1
  rw [entC_length bs es h5] at hn
  obtain rfl : n = es.length := by omega
  exact ⟨p, c, cell_at h1 rfl⟩
theorem len_any {D : Nat → Prop} {w : World} {b : Nat} {s : ByteArray} {es : List Ent} (h : ListR D w b s es) :
    Calls Tryd.prog 74 #[.pointer (some ⟨b, 0, none⟩)] w fun e w' => e = .returned (.int .i64 es.length) ∧ w' = w := by
  obtain ⟨p, c, hc⟩ := h.len
  exact vc_len b 0 w _ ⟨p, es.length, c, by rw [Nat.zero_add]; exact hc, rfl, rfl⟩
/-- The verdict of a list on a name. -/
def verd (es : List Ent) (s : ByteArray) : Int := es.foldl (fun a e => if matchB e.els s = true then e.v else a) 0
theorem verd_snoc (es : List Ent) (e : Ent) (s : ByteArray) : verd (es ++ [e]) s = if matchB e.els s = true then e.v else verd es s := by simp [verd]
/-- The cells of an entry. -/
theorem ListR.ent {D : Nat → Prop} {w : World} {b : Nat} {s : ByteArray} {es : List Ent} (h : ListR D w b s es) {k : Nat} {e : Ent} (hk : es[k]? = some e) :
    ∃ g c b', w.cell? ⟨b, 1, none⟩ = some (.slice (some ⟨g, 0, none⟩) es.length c) ∧ w.cell? ⟨g, 0 + k * 2, none⟩ = some (.pointer (some ⟨b', 0, none⟩)) ∧ w.cell? ⟨g, 0 + k * 2 + 1, none⟩ = some (.int .i64 e.v) ∧ PatR D w b' e.t e.els := by
  obtain ⟨p, n, c, bs, h1, h2, h3, h4, h5, h6⟩ := h
  have hlt : k < es.length := (List.getElem?_eq_some_iff.1 hk).1
  have hn := h3.1
  rw [entC_length bs es h5] at hn
  obtain rfl : n = es.length := by omega
  obtain ⟨b', hb'⟩ : ∃ b', bs[k]? = some b' := ⟨_, List.getElem?_eq_getElem (by omega)⟩
  obtain ⟨g1, g2⟩ := entC_get bs es k b' e hb' hk
  rcases h3.2 with ⟨_, h0⟩ | ⟨g, cap, cur, hv, _, hg, hnc, _, hsz, ht⟩
  · omega
  · simp only [Value.slice.injEq, true_and] at hv
    have key : ∀ i v, i < es.length * 2 → (entC bs es)[i]? = some v → w.cell? ⟨g, i, none⟩ = some v := fun i v hi hv => by
      rw [cell_block hg]
      rw [← ht, List.getElem?_take, if_pos hi] at hv
      simpa using hv
    obtain ⟨rfl, rfl⟩ := hv
    refine ⟨g, c, b', cell_at h1 rfl, ?_, ?_, h6 k b' e hb' hk⟩
    · rw [Nat.zero_add]; exact key _ _ (by omega) g1
    · rw [Nat.zero_add]; exact key _ _ (by omega) g2
theorem verdict_any {D : Nat → Prop} {w : World} {b : Nat} {t : ByteArray} {es : List Ent} (h : ListR D w b t es) (h64 : es.length ≤ 64) (h80 : ∀ e ∈ es, e.els.length ≤ 80) (s : ByteArray) (hs : s.size ≤ 9223372036854775807) :
    Calls Tryd.prog 58 #[.pointer (some ⟨b, 0, none⟩), .string s] w fun e w' => e = .returned (.int .i64 (verd es s)) ∧ K0 w w' := by
  refine vc_verdict b 0 s w _ ⟨(len_any h).mono fun e w' ⟨he, hw⟩ => ⟨_, he, ?_⟩⟩
  subst hw
  rw [wr64 (by omega) (by omega)]
  refine ⟨fun vs w2 => ∃ k : Nat, vs = [.int .i64 ((k : Int) - 1)] ∧ k ≤ es.length ∧ verd es s = verd (es.take k) s ∧ K0 w' w2, fun vs _ => (match vs with | [.int _ x] => (x + 1).toNat | _ => 0),
    ⟨es.length, rfl, Nat.le_refl _, by rw [List.take_length], .refl _ _⟩, fun x w2 ⟨k, hv, hk, hS, hw2⟩ => ?_⟩
  simp only [List.cons.injEq, Value.int.injEq, true_and, and_true] at hv
  subst hv
  have h2 := h.kp hw2 (fun _ _ _ h => h)
  refine bsp_intro (fun hge => ?_) (fun hlt => ?_)
  · have hge : 1 ≤ k := by simp at hge; omega
    obtain ⟨j, rfl⟩ : ∃ j, k = j + 1 := ⟨k - 1, by omega⟩
    have ej : ((j + 1 : Nat) : Int) - 1 = (j : Int) := by omega
    rw [ej]
    have ej2 : (j : Int).toNat = j := by omega
    rw [ej2]
    obtain ⟨y, hy⟩ : ∃ y, es[j]? = some y := ⟨_, List.getElem?_eq_getElem (by omega)⟩
    have htk : es.take (j + 1) = es.take j ++ [y] := by rw [List.take_add_one, hy]; rfl
    rw [htk, verd_snoc] at hS
    obtain ⟨g, c, b', c1, c2, c3, hp⟩ := h2.ent hy
    refine ⟨_, _, _, by rw [Nat.zero_add]; exact c1, ?_⟩
    show (0 ≤ (j : Int) ∧ (j : Int) < (es.length : Int)) ∧ _
    refine ⟨⟨by omega, by omega⟩, _, c2, ⟨(match_any hp (by have := h80 y (List.mem_of_getElem? hy); omega) s hs).mono fun e w3 ⟨he, hk3⟩ => ⟨_, he, ?_⟩⟩⟩
    have h3 := h2.kp hk3 (fun _ _ _ h => h)
    refine bsp_intro (fun hm => ?_) (fun hm => ?_)
    · obtain ⟨g, c, b', c1, c2, c3, hp⟩ := h3.ent hy
      refine ⟨_, _, _, by rw [Nat.zero_add]; exact c1, ?_⟩
      show (0 ≤ (j : Int) ∧ (j : Int) < (es.length : Int)) ∧ _
      refine ⟨⟨by omega, by omega⟩, _, c3, ?_, hw2.trans hk3⟩
      rw [hS, if_pos hm]
    · rw [if_neg (by rw [hm]; decide)] at hS
      rw [wr64 (by omega) (by omega)]
      exact ⟨⟨j, rfl, by omega, hS, hw2.trans hk3⟩, by simp⟩
  · have : k = 0 := by simp at hlt; omega
    subst this
    refine ⟨?_, hw2⟩
    rw [hS]
    rfl

/-- Strings that lie one behind the other. -/
def StrP (w : World) (p : Option Addr) (zs : List ByteArray) : Prop := ∀ j z, zs[j]? = some z → ∃ b o, p = some ⟨b, o, none⟩ ∧ w.cell? ⟨b, o + j, none⟩ = some (.string z)
theorem StrP.kp {M : Nat → Prop} {w w' : World} {p : Option Addr} {zs : List ByteArray} (h : StrP w p zs) (hk : Kp M w w') (hm : ∀ b o, p = some ⟨b, o, none⟩ → ¬ M b) : StrP w' p zs := fun j z hj => by
  obtain ⟨b, o, hp, hc⟩ := h j z hj
  exact ⟨b, o, hp, hk.cell' hc (hm b o hp)⟩
/-- A list accepts one of several names and poisons none of them. -/
def selB (es : List Ent) (zs : List ByteArray) : Bool := zs.all (fun z => !(verd es z == 3)) && zs.any (fun z => verd es z == 1)
theorem selects_any {D : Nat → Prop} {w : World} {b : Nat} {t : ByteArray} {es : List Ent} (h : ListR D w b t es) (h64 : es.length ≤ 64) (h80 : ∀ e ∈ es, e.els.length ≤ 80) (p : Option Addr) (c : Nat) (zs : List ByteArray) (hz : StrP w p zs) (hn : zs.length ≤ 9223372036854775807) (hs : ∀ z ∈ zs, z.size ≤ 9223372036854775807) :
    Calls Tryd.prog 39 #[.pointer (some ⟨b, 0, none⟩), .slice p zs.length c] w fun e w' => e = .returned (.bool (selB es zs)) ∧ K0 w w' := by
  refine vc_selects b 0 p zs.length c w _ ?_
  refine ⟨fun vs w2 => ∃ (k : Nat), vs = [.int .i64 k, .bool ((zs.take k).any fun z => verd es z == 1)] ∧ k ≤ zs.length ∧ (zs.take k).all (fun z => !(verd es z == 3)) = true ∧ K0 w w2, fun vs _ => (match vs with | .int _ x :: _ => zs.length - x.toNat | _ => 0),
    ⟨0, rfl, by omega, rfl, .refl _ _⟩, fun x x_1 w2 ⟨k, hv, hk, hall, hw2⟩ => ?_⟩
  simp only [List.cons.injEq, Value.int.injEq, true_and, and_true, Value.bool.injEq] at hv
  obtain ⟨rfl, rfl⟩ := hv
  refine bsp_intro (fun hlt => ?_) (fun hge => ?_)
  · have hlt : k < zs.length := by simpa using hlt
    obtain ⟨z, hzk⟩ : ∃ z, zs[k]? = some z := ⟨_, List.getElem?_eq_getElem hlt⟩
    have htk : zs.take (k + 1) = zs.take k ++ [z] := by rw [List.take_add_one, hzk]; rfl
    obtain ⟨b1, o1, rfl, hc⟩ := hz.kp hw2 (fun _ _ _ h => h) k z hzk
    have e0 : (k : Int).toNat = k := by omega
    show (0 ≤ (k : Int) ∧ (k : Int) < (zs.length : Int)) ∧ _
    refine ⟨⟨by omega, by omega⟩, z, by rw [e0]; exact hc, ?_⟩
    refine ⟨(verdict_any (h.kp hw2 (fun _ _ _ h => h)) h64 h80 z (hs z (List.mem_of_getElem? hzk))).mono fun e w3 ⟨he, hk3⟩ => ⟨_, he, ?_⟩⟩
    rw [wr64 (x := (k : Int) + 1) (by omega) (by omega)]
    refine bsp_intro (fun h1 => ⟨⟨k + 1, ?_, by omega, ?_, hw2.trans hk3⟩, by simp; omega⟩) (fun h1 => bsp_intro (fun h3 => ⟨?_, hw2.trans hk3⟩) (fun h3 => ⟨⟨k + 1, ?_, by omega, ?_, hw2.trans hk3⟩, by simp; omega⟩))
    · rw [htk, List.any_append]; simp [h1]
    · have h1' : verd es z = 1 := by simpa using h1
      rw [htk, List.all_append, hall]; simp [h1']
    · have : zs.all (fun z => !(verd es z == 3)) = false := by
        rw [List.all_eq_false]
        exact ⟨z, List.mem_of_getElem? hzk, by simp [h3]⟩
      simp [selB, this]
    · rw [htk, List.any_append]; simp [h1]
    · rw [htk, List.all_append, hall]; simp [h3]
  · have hge : ¬ k < zs.length := by simpa using hge
    obtain rfl : k = zs.length := by omega
    rw [List.take_length] at hall ⊢
    exact ⟨by simp [selB, hall], hw2⟩

end Go.Proofs.YtcpjajjocmpkjaaDoor

/- What an argument that was read gives: its cells, strings of slices, bytes of arrays. Generic but for the types' numbers. No condition. -/
namespace Go.Proofs.YtcpjajjocmpkjaaDoor
open Go.ChangeShapes Go.WideShapes Go.ChangeAt Go.RowKit Go.Deep

/-- Cells that were read as a value of a type. -/
def Rd {H : Type} (enc : TypeId × Value → H) (P : Program) (W : World) (t : TypeId) (cs : List Value) : Prop := ∃ (fuel : Nat) (x : DataW H × List MemPlace), DataW.trod enc P W 0 (fun _ => true) true fuel t cs = some x
section
variable {H : Type} {enc : TypeId × Value → H} {P : Program} {W : World} {t : TypeId} {cs : List Value}
theorem Rd.of {v : Value} {d : DataW H} {ps : List MemPlace} (h : DataW.Trod enc P W 0 (fun _ => true) true t v d ps) : Rd enc P W t v.cells.toList := by
  obtain ⟨fuel, h⟩ := h; exact ⟨fuel, _, h⟩
theorem Rd.field {fs : Array Field} (h : Rd enc P W t cs) (ht : P.underlying t = some (.struct fs)) {i : Nat} {f : Field} (hf : fs[i]? = some f) : Rd enc P W f.type ((cs.drop f.offset).take (P.cellsOf f.type)) := by
  obtain ⟨fuel, x, h⟩ := h
  obtain ⟨xs, n, _, _, _, hl, hg⟩ := DataW.trod_struct ht h
  have hi : i < xs.length := by rw [hl]; exact (Array.getElem?_eq_some_iff.1 hf).1
  exact ⟨n, xs[i], by rw [hg i f hf, List.getElem?_eq_getElem hi]⟩
theorem Rd.int {k : IntKind} (h : Rd enc P W t cs) (ht : P.underlying t = some (.int k)) : ∃ n, cs = [.int k n] ∧ (Lit.int k n).wf = true := by
  obtain ⟨fuel, x, h⟩ := h
  obtain ⟨n, h1, _, h2⟩ := DataW.trod_int ht h
  exact ⟨n, h1, h2⟩
theorem Rd.bool (h : Rd enc P W t cs) (ht : P.underlying t = some .bool) : ∃ b, cs = [.bool b] := by
  obtain ⟨fuel, x, h⟩ := h
  obtain ⟨b, h1, _⟩ := DataW.trod_bool ht h
  exact ⟨b, h1⟩
theorem Rd.str (h : Rd enc P W t cs) (ht : P.underlying t = some .string) : ∃ s : ByteArray, cs = [.string s] ∧ s.size ≤ 9223372036854775807 := by
  obtain ⟨fuel, x, h⟩ := h
  obtain ⟨s, h1, _, h2⟩ := DataW.trod_string ht h
  exact ⟨s, h1, h2⟩
/-- A slice that was read: its elements. -/
theorem Rd.slice {e : TypeId} (h : Rd enc P W t cs) (ht : P.underlying t = some (.slice e)) (hp : 0 < P.cellsOf e) : ∃ (p : Option Addr) (n c : Nat), cs = [.slice p n c] ∧ n ≤ c ∧ n ≤ 9223372036854775807 ∧
    ∀ i, i < n → ∃ (b o : Nat) (cs' : List Value), p = some ⟨b, o, none⟩ ∧ cs'.length = P.cellsOf e ∧ (∀ j v, cs'[j]? = some v → W.cell? ⟨b, o + i * P.cellsOf e + j, none⟩ = some v) ∧ Rd enc P W e cs' := by
  obtain ⟨fuel, x, h⟩ := h
  rcases open_slice ht h with ⟨h0, _⟩ | ⟨a, len, cap, m, nn, D, Pl, hcs, hb, hl, hm, hmm, hx, hi⟩
  · exact ⟨none, 0, 0, h0, by omega, by omega, fun i hi => by omega⟩
  · refine ⟨some a, len, cap, hcs, hl, by unfold maxLen at hm; omega, fun i hilt => ?_⟩
    have hmc : m = cap := by rw [hmm]; rfl
    obtain ⟨cs', hc, ht'⟩ := hi i (by omega)
    obtain ⟨_, hlen, hat⟩ := World.cells?_some hc
    have hspot : a.spot = none := by
      obtain ⟨cs0, hc0, _⟩ := hi 0 (by omega)
      obtain ⟨_, hl0, ha0⟩ := World.cells?_some hc0
      have h00 := ha0 0 hp
      rw [List.getElem?_eq_getElem (by omega)] at h00
      have := World.cell?_spot h00
      simpa [Addr.add] using this
    obtain ⟨b, o, sp⟩ := a
    simp only at hspot
    subst hspot
    refine ⟨b, o, cs', rfl, hlen, fun j v hj => ?_, nn, _, ht'⟩
    have hjl : j < P.cellsOf e := by have := (List.getElem?_eq_some_iff.1 hj).1; omega
    have := hat j hjl
    rw [addr_add2, hj] at this
    exact this
/-- A slice of strings that was read. -/
theorem Rd.strs {e : TypeId} (h : Rd enc P W t cs) (ht : P.underlying t = some (.slice e)) (he : P.underlying e = some .string) (h1 : P.cellsOf e = 1) : ∃ (p : Option Addr) (zs : List ByteArray) (c : Nat), cs = [.slice p zs.length c] ∧ zs.length ≤ c ∧ StrP W p zs ∧ ∀ z ∈ zs, z.size ≤ 9223372036854775807 := by
  obtain ⟨p, n, c, hcs, hnc, _, hel⟩ := h.slice ht (by omega)
  have key : ∀ i, i < n → ∃ z : ByteArray, z.size ≤ 9223372036854775807 ∧ ∃ b o, p = some ⟨b, o, none⟩ ∧ W.cell? ⟨b, o + i, none⟩ = some (.string z) := fun i hi => by
    obtain ⟨b, o, cs', hp, hl, hc, hr⟩ := hel i hi
    obtain ⟨z, rfl, hz⟩ := hr.str he
    have := hc 0 _ rfl
    rw [h1] at this
    exact ⟨z, hz, b, o, hp, by simpa using this⟩
  have hex : ∃ g : Nat → ByteArray, ∀ i, i < n → (g i).size ≤ 9223372036854775807 ∧ ∃ b o, p = some ⟨b, o, none⟩ ∧ W.cell? ⟨b, o + i, none⟩ = some (.string (g i)) := by
    refine ⟨fun i => if h : i < n then Classical.choose (key i h) else ByteArray.empty, fun i hi => ?_⟩
    simp only [hi, dif_pos]
    exact Classical.choose_spec (key i hi)
  obtain ⟨g, hg⟩ := hex
  refine ⟨p, (List.range n).map g, c, by simpa using hcs, by simpa using hnc, fun j z hj => ?_, fun z hz => ?_⟩
  · rw [List.getElem?_map] at hj
    rcases Nat.lt_or_ge j n with h | h
    · simp [h] at hj
      subst hj
      exact (hg j h).2
    · simp [h] at hj
  · obtain ⟨i, hi, rfl⟩ := List.mem_map.1 hz
    exact (hg i (List.mem_range.1 hi)).1
theorem arrI_ext (k : IntKind) (f : Nat → Int) : ∀ (n i : Nat) (cs : List Value), cs.length = n → (∀ j, j < n → cs[j]? = some (.int k (f (i + j)))) → cs = arrI k f n i
  | 0, i, [], _, _ => rfl
  | 0, i, _ :: _, h, _ => by simp at h
  | n + 1, i, [], h, _ => by simp at h
  | n + 1, i, c :: cs, h, hc => by
    have h0 := hc 0 (by omega)
    simp at h0
    simp only [arrI]
    rw [h0, ← arrI_ext k f n (i + 1) cs (by simpa using h) (fun j hj => by
      have := hc (j + 1) (by omega)
      rw [show i + 1 + j = i + (j + 1) by omega]
      simpa using this)]
/-- An array of numbers that was read. -/
theorem Rd.arr {n : Nat} {e : TypeId} {k : IntKind} (h : Rd enc P W t cs) (ht : P.underlying t = some (.array n e)) (he : P.underlying e = some (.int k)) (h1 : P.cellsOf e = 1) (hn : P.cellsOf t = n) : ∃ f : Nat → Int, cs = arrI k f n 0 := by
  obtain ⟨fuel, x, h⟩ := h
  obtain ⟨xs, m, _, _, hl, hxl, hg⟩ := DataW.trod_array ht h
  rw [hn] at hl
  have key : ∀ i, i < n → ∃ z : Int, cs[i]? = some (.int k z) := fun i hi => by
    have h2 := hg i hi
    rw [h1, List.getElem?_eq_getElem (by omega)] at h2
    obtain ⟨z, hz, _⟩ := DataW.trod_int he h2
    refine ⟨z, ?_⟩
    have : (cs.drop (i * 1)).take 1 = [cs[i]'(by omega)] := by
      rw [Nat.mul_one, List.drop_eq_getElem_cons (by omega)]; rfl
    rw [this] at hz
    simp at hz
    rw [List.getElem?_eq_getElem (by omega), hz]
  refine ⟨fun i => if h : i < n then Classical.choose (key i h) else 0, arrI_ext k _ n 0 cs hl (fun j hj => ?_)⟩
  rw [Nat.zero_add]
  simp only [hj, dif_pos]
  exact Classical.choose_spec (key j hj)
end

end Go.Proofs.YtcpjajjocmpkjaaDoor

/- Orders by a comparing function (plain): numbers first, then bytes. No condition. -/
namespace Go.Proofs.YtcpjajjocmpkjaaDoor
open Go.Sort

/-- A comparing function. -/
structure Ord3 {α : Type} (cf : α → α → Int) : Prop where
  anti : ∀ x y, cf x y = - cf y x
  tlt : ∀ x y z, cf x y < 0 → cf y z < 0 → cf x z < 0
  el : ∀ x y z, cf x y = 0 → cf y z < 0 → cf x z < 0
  le : ∀ x y z, cf x y < 0 → cf y z = 0 → cf x z < 0
theorem Ord3.self {α : Type} {cf : α → α → Int} (h : Ord3 cf) (x : α) : cf x x = 0 := by have := h.anti x x; omega
theorem Ord3.le_trans {α : Type} {cf : α → α → Int} (h : Ord3 cf) {x y z : α} (h1 : cf x y ≤ 0) (h2 : cf y z ≤ 0) (hz : ∀ x y z, cf x y = 0 → cf y z = 0 → cf x z = 0) : cf x z ≤ 0 := by
  rcases Int.lt_or_eq_of_le h1 with a | a <;> rcases Int.lt_or_eq_of_le h2 with b | b
  · have := h.tlt x y z a b; omega
  · have := h.le x y z a b; omega
  · have := h.el x y z a b; omega
  · have := hz x y z a b; omega
theorem cb_anti : ∀ a b : List UInt8, Lib.compareBytes a b = - Lib.compareBytes b a
  | [], [] => rfl
  | [], _ :: _ => rfl
  | _ :: _, [] => rfl
  | a :: us, b :: bs => by
    have ih := cb_anti us bs
    simp only [Lib.compareBytes]
    by_cases h1 : a < b
    · have h2 : ¬ b < a := by rw [UInt8.lt_iff_toNat_lt] at h1 ⊢; omega
      rw [if_pos h1, if_neg h2, if_pos h1]
    · by_cases h2 : b < a
      · rw [if_neg h1, if_pos h2, if_pos h2]; rfl
      · rw [if_neg h1, if_neg h2, if_neg h2, if_neg h1]; exact ih
theorem cb_zero : ∀ a b : List UInt8, Lib.compareBytes a b = 0 → a = b
  | [], [], _ => rfl
  | [], _ :: _, h => by simp [Lib.compareBytes] at h
  | _ :: _, [], h => by simp [Lib.compareBytes] at h
  | a :: us, b :: bs, h => by
    simp only [Lib.compareBytes] at h
    split at h
    · cases h
    · split at h
      · cases h
      · rename_i h1 h2
        have : a = b := by
          rw [UInt8.lt_iff_toNat_lt] at h1 h2
          exact UInt8.toNat_inj.1 (by omega)
        rw [this, cb_zero us bs h]
theorem cb_self (a : List UInt8) : Lib.compareBytes a a = 0 := by have := cb_anti a a; omega
theorem cb_tlt : ∀ a b c : List UInt8, Lib.compareBytes a b < 0 → Lib.compareBytes b c < 0 → Lib.compareBytes a c < 0
  | [], [], _, h, _ => by simp [Lib.compareBytes] at h
  | _ :: _, [], _, h, _ => by simp [Lib.compareBytes] at h
  | [], _ :: _, [], _, h => by simp [Lib.compareBytes] at h
  | [], _ :: _, _ :: _, _, _ => by simp [Lib.compareBytes]
  | _ :: _, _ :: _, [], _, h => by simp [Lib.compareBytes] at h
  | a :: us, b :: bs, c :: cs, h1, h2 => by
    have ih := cb_tlt us bs cs
    simp only [Lib.compareBytes] at h1 h2 ⊢
    simp only [UInt8.lt_iff_toNat_lt] at h1 h2 ⊢
    repeat' split
    all_goals first | decide | (split at h1 <;> split at h2 <;> first | omega | (split at h1 <;> first | omega | (split at h2 <;> first | omega | (apply ih <;> assumption))) | (split at h2 <;> first | omega | (apply ih <;> assumption)))
theorem cb_ord {α : Type} (f : α → List UInt8) : Ord3 fun x y => Lib.compareBytes (f x) (f y) where
  anti x y := cb_anti _ _
  tlt x y z := cb_tlt _ _ _
  el x y z h1 h2 := by have := cb_zero _ _ h1; rw [this]; exact h2
  le x y z h1 h2 := by have := cb_zero _ _ h2; rw [← this]; exact h1
theorem ci_ord {α : Type} (f : α → Int) : Ord3 fun x y => if f x < f y then (-1 : Int) else if f y < f x then 1 else 0 where
  anti x y := by split <;> split <;> omega
  tlt x y z h1 h2 := by split at h1 <;> split at h2 <;> split <;> omega
  el x y z h1 h2 := by split at h1 <;> split at h2 <;> split <;> omega
  le x y z h1 h2 := by split at h1 <;> split at h2 <;> split <;> omega
/-- One after the other. -/
theorem Ord3.thn {α : Type} {cf cg : α → α → Int} (hf : Ord3 cf) (hg : Ord3 cg) (hz : ∀ x y z, cf x y = 0 → cf y z = 0 → cf x z = 0) : Ord3 fun x y => if cf x y ≠ 0 then cf x y else cg x y where
  anti x y := by
    have h1 := hf.anti x y
    have h2 := hg.anti x y
    by_cases h : cf x y = 0
    · rw [if_neg (by omega), if_neg (by omega)]; exact h2
    · rw [if_pos h, if_pos (by omega)]; exact h1
  tlt x y z h1 h2 := by
    by_cases a : cf x y = 0
    · rw [if_neg (by omega)] at h1
      by_cases b : cf y z = 0
      · rw [if_neg (by omega)] at h2
        rw [if_neg (by have := hz x y z a b; omega)]
        exact hg.tlt x y z h1 h2
      · rw [if_pos b] at h2
        have := hf.el x y z a h2
        rw [if_pos (by omega)]; exact this
    · rw [if_pos a] at h1
      by_cases b : cf y z = 0
      · have := hf.le x y z h1 b
        rw [if_pos (by omega)]; exact this
      · rw [if_pos b] at h2
        have := hf.tlt x y z h1 h2
        rw [if_pos (by omega)]; exact this
  el x y z h1 h2 := by
    by_cases a : cf x y = 0
    · rw [if_neg (by omega)] at h1
      by_cases b : cf y z = 0
      · rw [if_neg (by omega)] at h2
        rw [if_neg (by have := hz x y z a b; omega)]
        exact hg.el x y z h1 h2
      · rw [if_pos b] at h2
        have := hf.el x y z a h2
        rw [if_pos (by omega)]; exact this
    · rw [if_pos a] at h1; omega
  le x y z h1 h2 := by
    by_cases b : cf y z = 0
    · rw [if_neg (by omega)] at h2
      by_cases a : cf x y = 0
      · rw [if_neg (by omega)] at h1
        rw [if_neg (by have := hz x y z a b; omega)]
        exact hg.le x y z h1 h2
      · rw [if_pos a] at h1
        have := hf.le x y z h1 b
        rw [if_pos (by omega)]; exact this
    · rw [if_pos b] at h2; omega
theorem Ord3.swo {α : Type} {cf : α → α → Int} (h : Ord3 cf) : SWO fun x y => decide (cf x y < 0) where
  irrefl x := by have := h.self x; simp; omega
  trans x y z h1 h2 := by simp at h1 h2 ⊢; exact h.tlt x y z h1 h2
  ntrans x y z h1 h2 := by
    simp at h1 h2 ⊢
    have a1 := h.anti x y
    have a2 := h.anti y z
    have a3 := h.anti x z
    rcases Int.lt_or_eq_of_le h1 with p | p <;> rcases Int.lt_or_eq_of_le h2 with q | q
    · have := h.tlt z y x (by omega) (by omega); omega
    · have := h.el z y x (by omega) (by omega); omega
    · have := h.le z y x (by omega) (by omega); omega
    · have b1 : cf x y = 0 := by omega
      have b2 : cf y z = 0 := by omega
      apply Classical.byContradiction
      intro hc
      have := h.le x z y (by omega) (by omega)
      omega

end Go.Proofs.YtcpjajjocmpkjaaDoor

/- The formulas of functions by the symbolic evaluator, and that each gives the call's contract. Written by a program (gen.py). No condition. -/
namespace Go.Proofs.YtcpjajjocmpkjaaDoor
set_option maxRecDepth 100000
set_option linter.unusedVariables false

def VC_select (q : Option Addr) (p : Option Addr) (n : Nat) (c : Nat) (now : Int) (w : World) (R : Ending → World → Prop) : Prop :=
 ∃ (I : List Value → World → Prop),
 ∃ (m : List Value → World → Nat),
 I [Value.int IntKind.i64 0, Value.slice none 0 0] w ∧
 ∀ (x : Int) (p_1 : Option Addr) (n_1 c : Nat) (w' : World),
 I [Value.int IntKind.i64 x, Value.slice p_1 n_1 c] w' →
 bsp (decide (x < (↑n : Int)))
 (nn true p fun (b o : Nat) =>
 (0 ≤ x ∧ x < (↑n : Int)) ∧
 ∃ (f : Nat → Int),
 ∃ (p : Option Addr),
 ∃ (n : Nat),
 ∃ (c_1 : Nat),
 ∃ (x_1 : ByteArray),
 ∃ (x_2 : Int),
 ∃ (x_3 : Bool),
 ∃ (x_4 : ByteArray),
 ∃ (x_5 : Int),
 AtL w' b (o + x.toNat * 38)
 (arrI IntKind.u8 f 32 0 ++ [Value.slice p n c_1, Value.string x_1,
 Value.int IntKind.i64 x_2, Value.bool x_3, Value.string x_4, Value.int IntKind.i64 x_5]) ∧
 ∀ (n_2 : Nat) (w1 : World),
 NewB w'
 (Obj.cells
 #[Value.int IntKind.u8 0, Value.int IntKind.u8 0, Value.int IntKind.u8 0, Value.int IntKind.u8 0,
 Value.int IntKind.u8 0, Value.int IntKind.u8 0, Value.int IntKind.u8 0, Value.int IntKind.u8 0,
 Value.int IntKind.u8 0, Value.int IntKind.u8 0, Value.int IntKind.u8 0, Value.int IntKind.u8 0,
 Value.int IntKind.u8 0, Value.int IntKind.u8 0, Value.int IntKind.u8 0, Value.int IntKind.u8 0,
 Value.int IntKind.u8 0, Value.int IntKind.u8 0, Value.int IntKind.u8 0, Value.int IntKind.u8 0,
 Value.int IntKind.u8 0, Value.int IntKind.u8 0, Value.int IntKind.u8 0, Value.int IntKind.u8 0,
 Value.int IntKind.u8 0, Value.int IntKind.u8 0, Value.int IntKind.u8 0, Value.int IntKind.u8 0,
 Value.int IntKind.u8 0, Value.int IntKind.u8 0, Value.int IntKind.u8 0, Value.int IntKind.u8 0,
 Value.slice none 0 0, Value.string (ByteArray.mk #[]), Value.int IntKind.i64 0, Value.bool false,
 Value.string (ByteArray.mk #[]), Value.int IntKind.i64 0]
 39)
 n_2 w1 →
 WrL w1 n_2 0 38 ∧
 ∀ (w1_1 : World),
 PutB w1 n_2 0
 (arrI IntKind.u8 f 32 0 ++ [Value.slice p n c_1,
 Value.string x_1, Value.int IntKind.i64 x_2, Value.bool x_3, Value.string x_4,
 Value.int IntKind.i64 x_5])
 w1_1 →
 ∃ (f : Nat → Int),
 ∃ (p : Option Addr),
 ∃ (n : Nat),
 ∃ (c_2 : Nat),
 ∃ (x_6 : ByteArray),
 ∃ (x_7 : Int),
 ∃ (x_8 : Bool),
 ∃ (x_9 : ByteArray),
 ∃ (x_10 : Int),
 AtL w1_1 n_2 0
 (arrI IntKind.u8 f 32 0 ++ [Value.slice p n c_2,
 Value.string x_6, Value.int IntKind.i64 x_7, Value.bool x_8, Value.string x_9,
 Value.int IntKind.i64 x_10]) ∧
 CallsS Tryd.prog 16
 #[Value.pointer q,
 Value.agg
 (arrI IntKind.u8 f 32 0 ++ [Value.slice p n c_2,
 Value.string x_6, Value.int IntKind.i64 x_7, Value.bool x_8, Value.string x_9,
 Value.int IntKind.i64 x_10]).toArray]
 w1_1 fun (e : Ending) (w'_1 : World) =>
 ∃ (x_11 : Int),
 ∃ (x_12 : Bool),
 e = Ending.returned (Value.tuple #[Value.int IntKind.i64 x_11, Value.bool x_12]) ∧
 bsp (x_12 && decide (x_11 ≤ now))
 (∃ (f : Nat → Int),
 AtL w'_1 n_2 0
 (arrI IntKind.u8 f 32 0) ∧
 ∀ (n : Nat) (w1 : World),
 NewB w'_1
 (Obj.cells
 ([Value.int IntKind.i64 x_11] ++ arrI IntKind.u8 f 32 0).toArray
 101)
 n w1 →
 ∃ (base : Nat),
 ∃ (xs : List Value),
 ∃ (news : List Value),
 w1.ownsRow base 101 33 (Value.slice p_1 n_1 c) n_1 xs ∧
 news.length = 33 ∧
 SrcP w1 (some (Addr.mk n 0 none)) news ∧
 n_1 + 1 ≤ 9223372036854775807 ∧
 (n_1 + 1) * 40 ≤ 140737488355328 ∧
 base ≤ w1.heap.size ∧
 ∀ (p' : Option Addr) (c' : Nat) (w'_2 : World),
 w'_2.ownsRow base 101 33 (Value.slice p' (n_1 + 1) c') (n_1 + 1)
 (xs ++ news) →
 w1.grownBy w'_2 (Value.slice p_1 n_1 c).ownBlock →
 I
 [Value.int IntKind.i64 (IntKind.i64.wrap (x + 1)),
 Value.slice p' (n_1 + 1) c']
 w'_2 ∧
 m
 [Value.int IntKind.i64 (IntKind.i64.wrap (x + 1)),
 Value.slice p' (n_1 + 1) c']
 w'_2 <
 m [Value.int IntKind.i64 x, Value.slice p_1 n_1 c] w')
 (I [Value.int IntKind.i64 (IntKind.i64.wrap (x + 1)), Value.slice p_1 n_1 c]
 w'_1 ∧
 m [Value.int IntKind.i64 (IntKind.i64.wrap (x + 1)), Value.slice p_1 n_1 c]
 w'_1 <
 m [Value.int IntKind.i64 x, Value.slice p_1 n_1 c] w'))
 (CallsS Tryd.prog 48 #[Value.slice p_1 n_1 c, Value.func (Fn.func 49) #[] #[]] w' fun (e : Ending) (w' : World) =>
 e = Ending.returned (Value.tuple #[]) ∧
 ∀ (n : Nat) (w1 : World),
 NewB w' (Obj.map #[] 0) n w1 →
 ∃ (I : List Value → World → Prop),
 ∃ (m : List Value → World → Nat),
 I [Value.int IntKind.i64 0, Value.slice none 0 0] w1 ∧
 ∀ (x : Int) (p : Option Addr) (n_2 c : Nat) (w' : World),
 I [Value.int IntKind.i64 x, Value.slice p n_2 c] w' →
 bsp (decide (x < (↑n_1 : Int)))
 (nn true p_1 fun (b o : Nat) =>
 (0 ≤ x ∧ x < (↑n_1 : Int)) ∧
 ∃ (x_1 : Int),
 ∃ (f : Nat → Int),
 AtL w' b (o + x.toNat * 33)
 ([Value.int IntKind.i64 x_1] ++ arrI IntKind.u8 f 32 0) ∧
 ∀ (n_3 : Nat) (w1 : World),
 NewB w'
 (Obj.cells
 #[Value.int IntKind.i64 0, Value.int IntKind.u8 0, Value.int IntKind.u8 0,
 Value.int IntKind.u8 0, Value.int IntKind.u8 0, Value.int IntKind.u8 0,
 Value.int IntKind.u8 0, Value.int IntKind.u8 0, Value.int IntKind.u8 0,
 Value.int IntKind.u8 0, Value.int IntKind.u8 0, Value.int IntKind.u8 0,
 Value.int IntKind.u8 0, Value.int IntKind.u8 0, Value.int IntKind.u8 0,
 Value.int IntKind.u8 0, Value.int IntKind.u8 0, Value.int IntKind.u8 0,
 Value.int IntKind.u8 0, Value.int IntKind.u8 0, Value.int IntKind.u8 0,
 Value.int IntKind.u8 0, Value.int IntKind.u8 0, Value.int IntKind.u8 0,
 Value.int IntKind.u8 0, Value.int IntKind.u8 0, Value.int IntKind.u8 0,
 Value.int IntKind.u8 0, Value.int IntKind.u8 0, Value.int IntKind.u8 0,
 Value.int IntKind.u8 0, Value.int IntKind.u8 0, Value.int IntKind.u8 0]
 101)
 n_3 w1 →
 WrL w1 n_3 0 33 ∧
 ∀ (w1_1 : World),
 PutB w1 n_3 0
 ([Value.int IntKind.i64 x_1] ++ arrI IntKind.u8 f 32 0)
 w1_1 →
 ∃ (f : Nat → Int),
 AtL w1_1 n_3 (0 + 1)
 (arrI IntKind.u8 f 32 0) ∧
 ∃ (x_2 : Bool),
 LookP Tryd.prog 107 (Value.map (some n))
 (Value.agg
 (arrI IntKind.u8 f 32 0).toArray)
 false (Value.bool x_2) w1_1 ∧
 bsp (!x_2)
 (∃ (f : Nat → Int),
 AtL w1_1 n_3 (0 + 1)
 (arrI IntKind.u8 f 32 0) ∧
 ∃ (w1 : World),
 UpdP Tryd.prog 107 (Value.map (some n))
 (Value.agg
 (arrI IntKind.u8 f 32 0).toArray)
 (Value.bool true) w1_1 w1 ∧
 ∃ (f : Nat → Int),
 AtL w1 n_3 (0 + 1)
 (arrI IntKind.u8 f 32 0) ∧
 ∀ (n : Nat) (w1_2 : World),
 NewB w1
 (Obj.cells
 (arrI IntKind.u8 f 32 0).toArray
 37)
 n w1_2 →
 ∃ (base : Nat),
 ∃ (xs : List Value),
 ∃ (news : List Value),
 w1_2.ownsRow base 37 32 (Value.slice p n_2 c) n_2 xs ∧
 news.length = 32 ∧
 SrcP w1_2 (some (Addr.mk n 0 none)) news ∧
 n_2 + 1 ≤ 9223372036854775807 ∧
 (n_2 + 1) * 32 ≤ 140737488355328 ∧
 base ≤ w1_2.heap.size ∧
 ∀ (p' : Option Addr) (c' : Nat) (w'_1 : World),
 w'_1.ownsRow base 37 32 (Value.slice p' (n_2 + 1) c') (n_2 + 1)
 (xs ++ news) →
 w1_2.grownBy w'_1 (Value.slice p n_2 c).ownBlock →
 I
 [Value.int IntKind.i64 (IntKind.i64.wrap (x + 1)),
 Value.slice p' (n_2 + 1) c']
 w'_1 ∧
 m
 [Value.int IntKind.i64 (IntKind.i64.wrap (x + 1)),
 Value.slice p' (n_2 + 1) c']
 w'_1 <
 m [Value.int IntKind.i64 x, Value.slice p n_2 c] w')
 (I [Value.int IntKind.i64 (IntKind.i64.wrap (x + 1)), Value.slice p n_2 c] w1_1 ∧
 m [Value.int IntKind.i64 (IntKind.i64.wrap (x + 1)), Value.slice p n_2 c] w1_1 <
 m [Value.int IntKind.i64 x, Value.slice p n_2 c] w'))
 (R (Ending.returned (Value.slice p n_2 c)) w'))
theorem vc_select (q : Option Addr) (p : Option Addr) (n : Nat) (c : Nat) (now : Int) (w : World) (R : Ending → World → Prop) (h : VC_select q p n c now w R) : Calls Tryd.prog 27 ([Value.pointer
    q,
  Value.slice p n c, Value.int IntKind.i64 now] : List Value).toArray w R := by
  have e : execR { P := Tryd.prog, loops := [(3, [(18, Ck.int IntKind.i64), (7, Ck.slice)]), (13, [(47, Ck.int IntKind.i64), (12, Ck.slice)])], pur := pur1, tails := [], joins := [], boxes := [] } Tryd.f27.results.toList R (Tryd.f27.body.getD .skip) (initF [Value.pointer
    q,
  Value.slice p n c,
  Value.int IntKind.i64
    now] (Tryd.f27.ntmps - ([Value.pointer q, Value.slice p n c,
  Value.int IntKind.i64 now] : List Value).length)) w = VC_select q p n c now w R := by kernel_rfl
  have hb : Tryd.f27.body = some (Tryd.f27.body.getD .skip) := by kernel_rfl
  exact calls_of_exec' (P := Tryd.prog) (fn := Tryd.f27) (c := Tryd.f27.body.getD .skip) (args := [Value.pointer q,
  Value.slice p n c, Value.int IntKind.i64 now]) (w := w) (R := R) pur1_ok Tryd.func27 hb e h

def VC_scmp (a : Array Value) (b : Array Value) (w : World) (R : Ending → World → Prop) : Prop :=
 ∀ (n : Nat) (w1 : World),
 NewB w (Obj.cells a 101) n w1 →
 ∀ (n_1 : Nat) (w1_1 : World),
 NewB w1 (Obj.cells b 101) n_1 w1_1 →
 ∃ (S : World → Prop),
 S w1_1.drew ∧
 ∃ (x : Int),
 (∀ (w' : World), S w' → w'.cell? (Addr.mk n 0 none) = some (Value.int IntKind.i64 x)) ∧
 ∃ (x_1 : Int),
 (∀ (w' : World), S w' → w'.cell? (Addr.mk n_1 0 none) = some (Value.int IntKind.i64 x_1)) ∧
 ∃ (f : Nat → Int),
 (∀ (w' : World),
 S w' →
 AtL w' n (0 + 1)
 (arrI IntKind.u8 f 32 0)) ∧
 ∃ (f_1 : Nat → Int),
 (∀ (w' : World),
 S w' →
 AtL w' n_1 (0 + 1)
 (arrI IntKind.u8 f_1 32 0)) ∧
 CallsS Tryd.prog 51 #[Value.int IntKind.i64 x, Value.int IntKind.i64 x_1] w1_1.drew
 fun (e : Ending) (w' : World) =>
 ∃ (x : Int),
 e = Ending.returned (Value.int IntKind.i64 x) ∧
 S w' ∧
 CallsS Tryd.prog 52
 #[Value.agg
 (arrI IntKind.u8 f 32 0).toArray,
 Value.agg
 (arrI IntKind.u8 f_1 32 0).toArray]
 w' fun (e : Ending) (w' : World) =>
 ∃ (x_2 : Int),
 e = Ending.returned (Value.int IntKind.i64 x_2) ∧
 ∀ (n : Nat) (w1 : World),
 NewB w' (Obj.cells #[Value.int IntKind.i64 x, Value.int IntKind.i64 x_2] 3) n w1 →
 CallsS Tryd.prog 50 #[Value.slice (some (Addr.mk n 0 none)) 2 2] w1
 fun (e : Ending) (w' : World) =>
 ∃ (x : Int),
 e = Ending.returned (Value.int IntKind.i64 x) ∧
 R (Ending.returned (Value.int IntKind.i64 x)) w'
theorem vc_scmp (a : Array Value) (b : Array Value) (w : World) (R : Ending → World → Prop) (h : VC_scmp a b w R) : Calls Tryd.prog 49 ([Value.agg
    a,
  Value.agg b] : List Value).toArray w R := by
  have e : execR { P := Tryd.prog, loops := [], pur := pur1, tails := [(1, 4)], joins := [], boxes := [] } Tryd.f49.results.toList R (Tryd.f49.body.getD .skip) (initF [Value.agg
    a,
  Value.agg b] (Tryd.f49.ntmps - ([Value.agg a, Value.agg b] : List Value).length)) w = VC_scmp a b w R := by kernel_rfl
  have hb : Tryd.f49.body = some (Tryd.f49.body.getD .skip) := by kernel_rfl
  exact calls_of_exec' (P := Tryd.prog) (fn := Tryd.f49) (c := Tryd.f49.body.getD .skip) (args := [Value.agg a,
  Value.agg b]) (w := w) (R := R) pur1_ok Tryd.func49 hb e h

def VC_cmpOr (p : Option Addr) (n : Nat) (c : Nat) (w : World) (R : Ending → World → Prop) : Prop :=
 ∃ (I : List Value → World → Prop),
 ∃ (m : List Value → World → Nat),
 I [Value.int IntKind.i64 0] w ∧
 ∀ (x : Int) (w' : World),
 I [Value.int IntKind.i64 x] w' →
 bsp (decide (x < (↑n : Int)))
 (nn true p fun (b o : Nat) =>
 (0 ≤ x ∧ x < (↑n : Int)) ∧
 ∃ (x_1 : Int),
 w'.cell? (Addr.mk b (o + x.toNat) none) = some (Value.int IntKind.i64 x_1) ∧
 bsp (x_1 != 0) (R (Ending.returned (Value.int IntKind.i64 x_1)) w')
 (I [Value.int IntKind.i64 (IntKind.i64.wrap (x + 1))] w' ∧
 m [Value.int IntKind.i64 (IntKind.i64.wrap (x + 1))] w' < m [Value.int IntKind.i64 x] w'))
 (R (Ending.returned (Value.int IntKind.i64 0)) w')
theorem vc_cmpOr (p : Option Addr) (n : Nat) (c : Nat) (w : World) (R : Ending → World → Prop) (h : VC_cmpOr p n c w R) : Calls Tryd.prog 50 ([Value.slice
    p n c] : List Value).toArray w R := by
  have e : execR { P := Tryd.prog, loops := [(3, [(8, Ck.int IntKind.i64)])], pur := pur1, tails := [], joins := [], boxes := [] } Tryd.f50.results.toList R (Tryd.f50.body.getD .skip) (initF [Value.slice
    p n c] (Tryd.f50.ntmps - ([Value.slice p n c] : List Value).length)) w = VC_cmpOr p n c w R := by kernel_rfl
  have hb : Tryd.f50.body = some (Tryd.f50.body.getD .skip) := by kernel_rfl
  exact calls_of_exec' (P := Tryd.prog) (fn := Tryd.f50) (c := Tryd.f50.body.getD .skip) (args := [Value.slice p n
    c]) (w := w) (R := R) pur1_ok Tryd.func50 hb e h

def VC_cmpI (a : Int) (b : Int) (w : World) (R : Ending → World → Prop) : Prop :=
 CallsS Tryd.prog 65 #[Value.int IntKind.i64 a] w fun (e : Ending) (w' : World) =>
 ∃ (x : Bool),
 e = Ending.returned (Value.bool x) ∧
 CallsS Tryd.prog 65 #[Value.int IntKind.i64 b] w' fun (e : Ending) (w' : World) =>
 ∃ (x_1 : Bool),
 e = Ending.returned (Value.bool x_1) ∧
 bsp x
 (bsp x_1 (R (Ending.returned (Value.int IntKind.i64 0)) w')
 (R (Ending.returned (Value.int IntKind.i64 (-1))) w'))
 (bsp x_1 (R (Ending.returned (Value.int IntKind.i64 1)) w')
 (bsp (decide (a < b)) (R (Ending.returned (Value.int IntKind.i64 (-1))) w')
 (bsp (decide (a > b)) (R (Ending.returned (Value.int IntKind.i64 1)) w')
 (R (Ending.returned (Value.int IntKind.i64 0)) w'))))
theorem vc_cmpI (a : Int) (b : Int) (w : World) (R : Ending → World → Prop) (h : VC_cmpI a b w R) : Calls Tryd.prog 51 ([Value.int
    IntKind.i64 a,
  Value.int IntKind.i64 b] : List Value).toArray w R := by
  have e : execR { P := Tryd.prog, loops := [], pur := pur1, tails := [], joins := [], boxes := [] } Tryd.f51.results.toList R (Tryd.f51.body.getD .skip) (initF [Value.int
    IntKind.i64 a,
  Value.int IntKind.i64
    b] (Tryd.f51.ntmps - ([Value.int IntKind.i64 a,
  Value.int IntKind.i64 b] : List Value).length)) w = VC_cmpI a b w R := by kernel_rfl
  have hb : Tryd.f51.body = some (Tryd.f51.body.getD .skip) := by kernel_rfl
  exact calls_of_exec' (P := Tryd.prog) (fn := Tryd.f51) (c := Tryd.f51.body.getD .skip) (args := [Value.int IntKind.i64
    a,
  Value.int IntKind.i64 b]) (w := w) (R := R) pur1_ok Tryd.func51 hb e h

end Go.Proofs.YtcpjajjocmpkjaaDoor
