/- The contracts of wildmat's ParseList, Len, Verdict and Selects, by plain functions. Texts have at most 2^30 bytes; the library's variable MaxLen holds a number. -/
import Derived.Test.YtcpjajjocmpkjaaDoorMatch
import Derived.Test.YtcpjajjocmpkjaaDoorVcList
namespace Go.Proofs.YtcpjajjocmpkjaaDoor
open Go.RowKit

/-- The library's variable MaxLen holds a number. -/
def GW (w : World) : Prop := ∃ m, w.cell? ⟨0, 0, none⟩ = some (.int .i64 m)
theorem GW.kp {M : Nat → Prop} {w w' : World} (h : GW w) (hk : Kp M w w') (hm : ¬ M 0) : GW w' := by
  obtain ⟨m, h⟩ := h; exact ⟨m, hk.cell' h hm⟩

/-- An entry of a list. -/
structure Ent where
  t : ByteArray
  els : List El
  v : Int
def entC : List Nat → List Ent → List Value
  | b :: bs, e :: es => .pointer (some ⟨b, 0, none⟩) :: .int .i64 e.v :: entC bs es
  | _, _ => []
theorem entC_length : ∀ (bs : List Nat) (es : List Ent), bs.length = es.length → (entC bs es).length = es.length * 2
  | [], [], _ => rfl
  | b :: bs, e :: es, h => by simp only [entC, List.length_cons, entC_length bs es (by simpa using h)]; omega
  | [], _ :: _, h => by simp at h
  | _ :: _, [], h => by simp at h
theorem entC_append : ∀ (bs : List Nat) (es : List Ent) (b : Nat) (e : Ent), bs.length = es.length → entC (bs ++ [b]) (es ++ [e]) = entC bs es ++ [.pointer (some ⟨b, 0, none⟩), .int .i64 e.v]
  | [], [], _, _, _ => rfl
  | b :: bs, e :: es, b', e', h => by simp only [List.cons_append, entC, entC_append bs es b' e' (by simpa using h)]
  | [], _ :: _, _, _, h => by simp at h
  | _ :: _, [], _, _, h => by simp at h
theorem entC_get : ∀ (bs : List Nat) (es : List Ent) (k : Nat) (b : Nat) (e : Ent), bs[k]? = some b → es[k]? = some e → (entC bs es)[k * 2]? = some (.pointer (some ⟨b, 0, none⟩)) ∧ (entC bs es)[k * 2 + 1]? = some (.int .i64 e.v)
  | [], _, k, b, e, h, _ => by simp at h
  | _ :: _, [], k, b, e, _, h => by simp at h
  | b :: bs, e :: es, 0, b', e', h, h' => by simp at h h'; subst h; subst h'; exact ⟨rfl, rfl⟩
  | b :: bs, e :: es, k + 1, b', e', h, h' => by
    have := entC_get bs es k b' e' (by simpa using h) (by simpa using h')
    rw [show (k + 1) * 2 = k * 2 + 1 + 1 by omega]
    simpa [entC] using this
/-- A list of patterns in the memory. -/
def ListR (D : Nat → Prop) (w : World) (b : Nat) (s : ByteArray) (es : List Ent) : Prop :=
  ∃ (p : Option Addr) (n c : Nat) (bs : List Nat), w.heap[b]? = some (.cells #[.string s, .slice p n c] 110 (0, 0)) ∧ D b ∧ w.ownsRow 0 114 2 (.slice p n c) n (entC bs es) ∧ (∀ k, (Value.slice p n c).ownBlock = some k → D k) ∧
    bs.length = es.length ∧ ∀ (k b' : Nat) (e : Ent), bs[k]? = some b' → es[k]? = some e → PatR D w b' e.t e.els
theorem ListR.kp {D M : Nat → Prop} {w w' : World} {b : Nat} {s : ByteArray} {es : List Ent} (h : ListR D w b s es) (hk : Kp M w w') (hm : ∀ k, D k → k < w.heap.size → ¬ M k) : ListR D w' b s es := by
  obtain ⟨p, n, c, bs, h1, h2, h3, h4, h5, h6⟩ := h
  exact ⟨p, n, c, bs, hk.blk h1 (hm b h2 (block_lt h1)), h2, owns_kp h3 hk (fun k hk => hm k (h4 k hk) (own_lt h3 hk)), h4, h5, fun k b' e hb he => (h6 k b' e hb he).kp hk hm⟩
theorem ListR.mono {D D' : Nat → Prop} {w : World} {b : Nat} {s : ByteArray} {es : List Ent} (h : ListR D w b s es) (hd : ∀ k, D k → k < w.heap.size → D' k) : ListR D' w b s es := by
  obtain ⟨p, n, c, bs, h1, h2, h3, h4, h5, h6⟩ := h
  exact ⟨p, n, c, bs, h1, hd b h2 (block_lt h1), h3, fun k hk => hd k (h4 k hk) (own_lt h3 hk), h5, fun k b' e hb he => (h6 k b' e hb he).mono hd⟩

/-- The parts of a text between commas. -/
def partsS (s : ByteArray) : List ByteArray := Lib.splitB ⟨#[44]⟩ 0 (Lib.countB s ⟨#[44]⟩) s
def markI (x : ByteArray) : Int := if Lib.hasPrefix x.data.toList [33] = true then 2 else if Lib.hasPrefix x.data.toList [64] = true then 3 else 1
def bareS (x : ByteArray) : ByteArray := if markI x = 1 then x else x.extract 1 x.size
/-- The entries of a list, or the offset and the kind of the error. -/
def entsS : List ByteArray → Int → List Ent → List Ent ⊕ (Int × Int)
  | [], _, acc => .inl acc
  | x :: r, at_, acc => if acc.length = 64 then .inr (at_, 9) else
    match compileR (bareS x) with
    | .inr (o, e) => .inr (at_ + x.size - (bareS x).size + o, e)
    | .inl els => entsS r (at_ + x.size + 1) (acc ++ [⟨bareS x, els, markI x⟩])
def listR (s : ByteArray) : List Ent ⊕ (Int × Int) := if s.size = 0 then .inr (0, 4) else entsS (partsS s) 0 []

theorem splitB_le (sep : ByteArray) : ∀ (k : Nat) (s x : ByteArray), x ∈ Lib.splitB sep 0 k s → x.size ≤ s.size
  | 0, s, x, h => by simp [Lib.splitB] at h; subst h; exact Nat.le_refl _
  | k + 1, s, x, h => by
    unfold Lib.splitB at h
    split at h
    · simp at h; subst h; exact Nat.le_refl _
    · rcases List.mem_cons.1 h with rfl | h
      · rw [ByteArray.size_extract]; omega
      · have := splitB_le sep k _ x h
        rw [ByteArray.size_extract] at this
        omega
theorem compS_len (s : ByteArray) : ∀ (f k : Nat) (acc els : List El), compS s f k acc = .inl els → els.length ≤ acc.length + f
  | 0, k, acc, els, h => by simp [compS] at h; subst h; omega
  | f + 1, k, acc, els, h => by
    unfold compS at h
    have ih := compS_len s f
    repeat' split at h
    all_goals first
      | (have := ih _ _ _ h; simp at this; omega)
      | (cases h; omega)
      | (cases h)
theorem compileR_len {s : ByteArray} {els : List El} (h : compileR s = .inl els) : els.length ≤ 80 := by
  unfold compileR at h
  split at h
  · cases h
  · split at h
    · cases h
    · have := compS_len s _ _ _ _ h; simp at this; omega
theorem compileR_off (s : ByteArray) (o : Nat) (e : Int) (h : compileR s = .inr (o, e)) : o ≤ 80 ∧ e ≠ 0 := by
  have key : ∀ (f k : Nat) (acc : List El), s.size ≤ 80 → compS s f k acc = .inr (o, e) → o ≤ 80 ∧ e ≠ 0 := by
    intro f
    induction f with
    | zero => intro k acc _ h; simp [compS] at h
    | succ f ih =>
      intro k acc hs h
      unfold compS at h
      repeat' split at h
      all_goals first
        | exact ih _ _ hs h
        | (simp at h; obtain ⟨rfl, rfl⟩ := h; exact ⟨by omega, by decide⟩)
        | (cases h)
  unfold compileR at h
  split at h
  · cases h; exact ⟨by omega, by decide⟩
  · split at h
    · cases h; exact ⟨by omega, by decide⟩
    · exact key _ _ _ (by omega) h

/-- A list that is being made. -/
def LstSt (w : World) (nb : Nat) (s : ByteArray) (es : List Ent) : Prop :=
  ∃ (p : Option Addr) (n c : Nat) (bs : List Nat), w.heap[nb]? = some (.cells #[.string s, .slice p n c] 110 (0, 0)) ∧ w.ownsRow (nb + 1) 114 2 (.slice p n c) n (entC bs es) ∧
    bs.length = es.length ∧ ∀ (k b' : Nat) (e : Ent), bs[k]? = some b' → es[k]? = some e → PatR (fun k => nb < k) w b' e.t e.els
theorem bareS_le (x : ByteArray) : (bareS x).size ≤ x.size := by
  unfold bareS
  split
  · exact Nat.le_refl _
  · rw [ByteArray.size_extract]; omega
theorem hasPrefix1 {x : ByteArray} {c : UInt8} (h : Lib.hasPrefix x.data.toList [c] = true) : 1 ≤ x.size := by
  have h1 : (x.data.toList).length = x.size := x.data.length_toList
  cases hx : x.data.toList with
  | nil => rw [hx] at h; simp [Lib.hasPrefix] at h
  | cons a r => rw [hx] at h1; simp at h1; omega

set_option maxHeartbeats 1000000 in
theorem parseList_any (s : ByteArray) (w : World) (hs : s.size ≤ 1073741824) (hG : GW w) : Calls Tryd.prog 30 #[.string s] w fun e w' => K0 w w' ∧
    match listR s with
    | .inl es => ∃ b, e = .returned (.tuple #[.pointer (some ⟨b, 0, none⟩), .int .i64 0, .int .i64 0]) ∧ ListR (fun k => w.heap.size ≤ k) w' b s es
    | .inr (o, x) => e = .returned (.tuple #[.pointer none, .int .i64 o, .int .i64 x]) := by
  refine vc_parseList s w _ ?_
  unfold VC_parseList
  rw [toList_nil]
  refine bsp_intro (fun h0 => ?_) (fun h0 => fun nb w1 hn => ?_)
  · have h0 : s.size = 0 := by simpa using h0
    refine ⟨.refl _ _, ?_⟩
    simp only [listR, h0, if_true]
  have h0 : ¬ s.size = 0 := by simpa using h0
  have hR : listR s = entsS (partsS s) 0 [] := by simp only [listR, h0, if_false]
  rw [hR]
  obtain ⟨mm, hG1⟩ := hG.kp (hn.kp (fun _ => False)) (fun h => h)
  refine ⟨(Tryd.strings_Split s ⟨#[44]⟩ mm w1 (by omega) hG1 (by decide)).mono fun e w2 ⟨he, hw2⟩ => ?_⟩
  have hlen : (partsS s).length = Lib.countB s ⟨#[44]⟩ + 1 := Lib.splitB_all ⟨#[44]⟩ (by decide) 0 _ s rfl
  have hle : ∀ x ∈ partsS s, x.size ≤ s.size := fun x hx => splitB_le _ _ _ _ hx
  have hn2 : NewB w1 (.cells ((partsS s).map .string).toArray 9) w1.heap.size w2 := ⟨rfl, hw2⟩
  rw [← hlen] at he
  generalize partsS s = ps at *
  clear hw2 hlen
  generalize w1.heap.size = np at he hn2
  refine ⟨_, _, _, he, ?_⟩
  clear he
  have hnb : nb = w.heap.size := hn.hn
  have hw2 : K0 w w2 := (hn.kp _).trans (hn2.kp _)
  have hnp : nb < np := Nat.lt_of_lt_of_le (block_lt hn.block) hn2.ge
  refine ⟨fun vs w' => ∃ (k : Nat) (at_ : Int) (es : List Ent), vs = [.int .i64 at_, .int .i64 k] ∧ k ≤ ps.length ∧ k ≤ 64 ∧ es.length = k ∧ 0 ≤ at_ ∧ at_ ≤ k * 2147483648 ∧ entsS (ps.drop k) at_ es = entsS ps 0 [] ∧
      w'.heap[np]? = some (.cells (ps.map .string).toArray 9 (0, 0)) ∧ LstSt w' nb s es ∧ K0 w w', fun vs _ => (match vs with | [_, .int _ x] => ps.length - x.toNat | _ => 0),
    ⟨0, 0, [], rfl, by omega, by omega, rfl, by omega, by omega, rfl, hn2.block, ⟨none, 0, 0, [], (hn2.kp (fun _ => False)).blk hn.block (fun h => h), World.ownsRow_nil _ _ _ _, rfl, fun k b' e h _ => by simp at h⟩, hw2⟩,
    fun a0 x_1 wA ⟨k, at_, es, hv, hk, hk64, hes, hat0, hat1, hS, hpA, hstA, hwA⟩ => ?_⟩
  simp only [List.cons.injEq, Value.int.injEq, true_and, and_true] at hv
  obtain ⟨rfl, rfl⟩ := hv
  refine bsp_intro (fun hlt => ?_) (fun hge => ?_)
  · have hlt : k < ps.length := by simpa using hlt
    obtain ⟨y, hy⟩ : ∃ y, ps[k]? = some y := ⟨_, List.getElem?_eq_getElem hlt⟩
    have hdr : ps.drop k = y :: ps.drop (k + 1) := by
      rw [List.drop_eq_getElem_cons hlt]
      congr 1
      rw [List.getElem?_eq_getElem hlt] at hy
      simpa using hy
    have hysz : y.size ≤ 1073741824 := by have := hle y (List.mem_of_getElem? hy); omega
    have hbsz := bareS_le y
    rw [hdr] at hS
    have e0 : (k : Int).toNat = k := by omega
    show (0 ≤ (k : Int) ∧ (k : Int) < (ps.length : Int)) ∧ _
    refine ⟨⟨by omega, by omega⟩, y, by rw [e0, Nat.zero_add]; exact cell_at hpA (by simp [hy]), ?_⟩
    obtain ⟨p, n, c, bs, hb, ho, hbl, hpat⟩ := hstA
    have hn' := ho.1
    rw [entC_length bs es hbl] at hn'
    have hn' : n = k := by omega
    subst hn'
    refine ⟨p, n, c, cell_at hb rfl, ?_⟩
    refine bsp_intro (fun h64 => ⟨hwA, ?_⟩) (fun h64 => fun n_3 w3 hn3 => ?_)
    · have h64 : n = 64 := by simp at h64; omega
      rw [← hS]
      simp [entsS, hes, h64]
    have h64 : ¬ n = 64 := by simp at h64; omega
    have h3n : wA.heap.size ≤ n_3 := hn3.ge
    refine ⟨WrL_block hn3.block (by simp), fun w4 hp4 => ?_⟩
    have hb4 : w4.heap[n_3]? = some (.cells #[.pointer none, .int .i64 1] 114 (0, 0)) := hp4.block hn3.block
    have hk4 : K0 wA w4 := (hn3.kp _).fresh hp4.kp (fun i hi e => by omega)
    refine ⟨fun vs w5 => vs = [.string (bareS y)] ∧ w5.heap[n_3]? = some (.cells #[.pointer none, .int .i64 (markI y)] 114 (0, 0)) ∧ K0 wA w5, ?_, fun x_3 w5 ⟨hx3, hb5, hk5⟩ => ?_⟩
    · refine bsp_intro (fun h1 => ?_) (fun h1 => bsp_intro (fun h2 => ?_) (fun h2 => ?_))
      · have hm : markI y = 2 := by unfold markI; rw [if_pos h1]
        have hb' : bareS y = y.extract 1 y.size := by unfold bareS; rw [hm, if_neg (by decide)]
        refine ⟨fun _ => True, trivial, ⟨by decide, by have := hasPrefix1 h1; omega⟩, cell_wr (blk_drew hb4) (by simp), fun w5 hp5 => ⟨by rw [hb'], ?_, hk4.drew.fresh hp5.kp (fun i hi e => by omega)⟩⟩
        rw [hm]; exact hp5.block (blk_drew hb4)
      · have hm : markI y = 3 := by unfold markI; rw [if_neg (by rw [h1]; decide), if_pos h2]
        have hb' : bareS y = y.extract 1 y.size := by unfold bareS; rw [hm, if_neg (by decide)]
        refine ⟨fun _ => True, trivial, ⟨by decide, by have := hasPrefix1 h2; omega⟩, cell_wr (blk_drew hb4) (by simp), fun w5 hp5 => ⟨by rw [hb'], ?_, hk4.drew.fresh hp5.kp (fun i hi e => by omega)⟩⟩
        rw [hm]; exact hp5.block (blk_drew hb4)
      · have hm : markI y = 1 := by unfold markI; rw [if_neg (by rw [h1]; decide), if_neg (by rw [h2]; decide)]
        have hb' : bareS y = y := by unfold bareS; rw [if_pos hm]
        exact ⟨by rw [hb'], by rw [hm]; exact hb4, hk4⟩
    simp only [List.cons.injEq, Value.string.injEq, and_true] at hx3
    subst hx3
    have hSy : entsS (y :: ps.drop (n + 1)) a0 es = match compileR (bareS y) with
        | .inr (o, e) => .inr (a0 + y.size - (bareS y).size + o, e)
        | .inl els => entsS (ps.drop (n + 1)) (a0 + y.size + 1) (es ++ [⟨bareS y, els, markI y⟩]) := by
      simp [entsS, hes, h64]
    rw [hSy] at hS
    refine ⟨(compile_any (bareS y) w5).mono fun e w6 ⟨hk6, hce⟩ => ?_⟩
    have hk6' : K0 wA w6 := hk5.trans hk6
    have hb6 := hk6.blk hb5 (fun h => h)
    cases hc : compileR (bareS y) with
    | inr oe =>
      obtain ⟨o, er⟩ := oe
      rw [hc] at hce hS
      obtain ⟨ho80, her⟩ := compileR_off _ _ _ hc
      refine ⟨none, o, er, hce, ?_⟩
      refine bsp_intro (fun _ => ⟨hwA.trans hk6', ?_⟩) (fun h => absurd h (by simpa using her))
      rw [← hS]
      simp only
      rw [wr64 (x := a0 + (y.size : Int)) (by omega) (by omega), wr64 (x := a0 + (y.size : Int) - ((bareS y).size : Int)) (by omega) (by omega), wr64 (by omega) (by omega)]
    | inl els =>
      rw [hc] at hce hS
      simp only at hce hS
      obtain ⟨b', he', hpatb⟩ := hce
      refine ⟨some ⟨b', 0, none⟩, 0, 0, he', ?_⟩
      refine bsp_intro (fun h => absurd h (by decide)) (fun _ => ⟨cell_wr hb6 (by simp), fun w7 hp7 => ?_⟩)
      have hb7 : w7.heap[n_3]? = some (.cells #[.pointer (some ⟨b', 0, none⟩), .int .i64 (markI y)] 114 (0, 0)) := hp7.block hb6
      have hk7 : K0 wA w7 := hk6'.fresh hp7.kp (fun i hi e => by omega)
      have hn35 : n_3 < w5.heap.size := block_lt hb5
      have hpat7 : PatR (fun k => w5.heap.size ≤ k) w7 b' (bareS y) els := hpatb.kp hp7.kp (fun k hk _ e => by omega)
      have hbA : w7.drew.heap[nb]? = some (.cells #[.string s, .slice p n c] 110 (0, 0)) := blk_drew (hk7.blk hb (fun h => h))
      have hoA : w7.drew.ownsRow (nb + 1) 114 2 (.slice p n c) n (entC bs es) := owns_kp ho hk7.drew (fun _ _ h => h)
      refine ⟨fun w' => w'.heap[nb]? = some (.cells #[.string s, .slice p n c] 110 (0, 0)) ∧ w'.heap[n_3]? = some (.cells #[.pointer (some ⟨b', 0, none⟩), .int .i64 (markI y)] 114 (0, 0)), ⟨hbA, blk_drew hb7⟩,
        p, n, c, fun w' h => cell_at h.1 rfl, some ⟨b', 0, none⟩, markI y, fun w' h => AtL_block h.2 rfl, fun n_5 w8 hn8 => ⟨⟨(hn8.kp (fun _ => False)).blk hbA (fun h => h), (hn8.kp (fun _ => False)).blk (blk_drew hb7) (fun h => h)⟩, ?_⟩⟩
      refine app1 hoA (block_lt hbA) hn8 rfl (fun u hu => by simp at hu; rcases hu with rfl | rfl <;> rfl) (by omega) (by omega) (fun p' c' w9 ho9 hk9 _ => ?_)
      have hne : ∀ k, (Value.slice p n c).ownBlock = some k → nb < k := fun k hk => own_ge hoA hk
      have hltA : ∀ k, (Value.slice p n c).ownBlock = some k → k < wA.heap.size := fun k hk => own_lt ho hk
      have hb9 := hk9.blk hbA (fun e => by have := hne _ e; omega)
      refine ⟨cell_wr hb9 (by simp), fun wB hpB => ?_⟩
      have hkB : Kp (fun k => (Value.slice p n c).ownBlock = some k ∨ k = nb) w7.drew wB := (hk9.mono fun _ _ h => .inl h).trans (hpB.kp.mono fun _ _ h => .inr h)
      have hwB : K0 w wB := (hwA.trans hk7.drew).fresh hkB (fun i hi h => by rcases h with h | h; have := hne i h; omega; omega)
      rw [wr64 (x := (y.size : Int) + 1) (by omega) (by omega), wr64 (x := a0 + ((y.size : Int) + 1)) (by omega) (by omega), wr64 (x := (n : Int) + 1) (by omega) (by omega)]
      refine ⟨⟨n + 1, a0 + (y.size + 1), es ++ [⟨bareS y, els, markI y⟩], by simp, by omega, by omega, by simp [hes], by omega, by omega, ?_, ?_, ?_, hwB⟩, by simp; omega⟩
      · rw [← hS, ← Int.add_assoc]
      · refine hkB.blk (blk_drew (hk7.blk hpA (fun h => h))) (fun h => ?_)
        rcases h with h | h
        · obtain ⟨cc, hcc⟩ := own_type hoA h
          rw [blk_drew (hk7.blk hpA (fun h => h))] at hcc
          simp at hcc
        · omega
      · have hTy : ∀ k c' t' f', ((Value.slice p n c).ownBlock = some k ∨ k = nb) → w7.drew.heap[k]? = some (.cells c' t' f') → t' ≠ 139 ∧ t' ≠ 174 := fun k c' t' f' hk hh => by
          rcases hk with hk | rfl
          · obtain ⟨cc, hcc⟩ := own_type hoA hk
            rw [hcc] at hh
            simp only [Option.some.injEq, Obj.cells.injEq] at hh
            rw [← hh.2.1]; decide
          · rw [hbA] at hh
            simp only [Option.some.injEq, Obj.cells.injEq] at hh
            rw [← hh.2.1]; decide
        refine ⟨p', n + 1, c', bs ++ [b'], hpB.block hb9, ?_, by simp [hbl], fun k b2 e2 h1 h2 => ?_⟩
        · rw [entC_append bs es b' _ hbl]
          exact owns_kp ho9 hpB.kp (fun k hk e => by have := own_ge ho9 hk; omega)
        · rcases Nat.lt_or_ge k es.length with hlt' | hge'
          · rw [List.getElem?_append_left (by omega)] at h1
            rw [List.getElem?_append_left (by omega)] at h2
            exact ((hpat k b2 e2 h1 h2).kp hk7.drew (fun _ _ _ h => h)).kpT hkB hTy
          · have hkk : k = es.length := by
              rcases Nat.lt_or_ge k (es.length + 1) with h' | h'
              · omega
              · rw [List.getElem?_eq_none (by simp; omega)] at h2; cases h2
            subst hkk
            rw [List.getElem?_append_right (by omega)] at h1 h2
            rw [hbl] at h1
            simp at h1 h2
            subst h1 h2
            have : PatR (fun k => w5.heap.size ≤ k) w7.drew b' (bareS y) els := hpat7
            have hnw5 : nb < w5.heap.size := Nat.lt_of_lt_of_le (block_lt hb) hk5.size
            exact (this.kpT hkB hTy).mono fun k hk _ => by omega
  · have hge : ¬ k < ps.length := by simpa using hge
    obtain rfl : k = ps.length := by omega
    refine ⟨hwA, ?_⟩
    rw [← hS, List.drop_length]
    obtain ⟨p, n, c, bs, hb, ho, hbl, hpat⟩ := hstA
    exact ⟨nb, rfl, p, n, c, bs, hb, by omega, ⟨ho.1, ho.2.imp id fun ⟨g, cap, cur, a1, a2, a3⟩ => ⟨g, cap, cur, a1, by omega, a3⟩⟩, fun k hk => (by have := own_ge ho hk; omega), hbl, fun k b' e h1 h2 => (hpat k b' e h1 h2).mono fun k hk _ => by omega⟩

end Go.Proofs.YtcpjajjocmpkjaaDoor
