/- Chapter 42: the contracts of slices.Clone and After. No condition but sizes. -/
import Derived.Test.YtmjanmffnblcoaaZ13
import Derived.Test.YtmjanmffnblcoaaProg
import Derived.Test.YtmjanmffnblcoaaZ02
import Derived.Test.YtmjanmffnblcoaaZ08
import Derived.Test.YtmjanmffnblcoaaZ04
import Derived.KernelRfl
namespace Go.Proofs.Ytmjanmffnblcoaa
open Go.RowKit Go.Sort Go.Maps

theorem str_none {w : World} {gs : List ByteArray} (h : StrP w none gs) : gs = [] := by
  cases gs with
  | nil => rfl
  | cons z r => obtain ⟨b, o, h1, _⟩ := h 0 z rfl; cases h1
theorem rowA_none {α : Type} {f : α → List Value} {L : Nat} {w : World} {l : List α} (h : RowA f L w none l) : l = [] := by
  cases l with
  | nil => rfl
  | cons z r => obtain ⟨b, o, h1, _⟩ := h 0 z rfl; cases h1
theorem src_str {w : World} {p : Option Addr} {gs : List ByteArray} (h : StrP w p gs) : SrcP w p (gs.map Value.string) := by
  refine ⟨fun j u hj => ?_, fun u hu => by obtain ⟨z, _, rfl⟩ := List.mem_map.1 hu; rfl⟩
  rw [List.getElem?_map] at hj
  cases hz : gs[j]? with
  | none => rw [hz] at hj; cases hj
  | some z =>
    rw [hz] at hj
    simp at hj
    subst hj
    obtain ⟨b, o, h1, h2⟩ := h j z hz
    exact ⟨b, o, h1, h2⟩
theorem idL_flat (l : List (Nat → Int)) : (l.flatMap idL).length = l.length * 32 := len_flat idL 32 l (fun _ _ => rfl)
theorem src_ids {w : World} {p : Option Addr} {l : List (Nat → Int)} (h : RowA idL 32 w p l) : SrcP w p (l.flatMap idL) := by
  refine ⟨fun j u hj => ?_, fun u hu => by obtain ⟨z, _, hz⟩ := List.mem_flatMap.1 hu; exact idL_one z u hz⟩
  have hlt := (List.getElem?_eq_some_iff.1 hj).1
  rw [idL_flat] at hlt
  obtain ⟨y, b, o, hy, hp, hat⟩ := h.get (k := j / 32) (by omega)
  have h1 := flat_get idL 32 l (j / 32) y (j % 32) (fun _ _ => rfl) hy (by omega)
  rw [show j / 32 * 32 + j % 32 = j by omega, hj] at h1
  refine ⟨b, o, hp, ?_⟩
  have := hat.cell h1.symm
  rwa [show o + j / 32 * 32 + j % 32 = o + j by omega] at this
theorem cloneS_any (gs : List ByteArray) (p : Option Addr) (c : Nat) (w : World) (h : StrP w p gs) (hl : gs.length ≤ 1000) :
    Calls Try.prog 43 #[.slice p gs.length c] w fun e w' => ∃ (p' : Option Addr) (c' : Nat), e = .returned (.slice p' gs.length c') ∧ w'.ownsRow w.heap.size 9 1 (.slice p' gs.length c') gs.length (gs.map Value.string) ∧ K0 w w' := by
  refine vc_cloneS p gs.length c w _ ?_
  unfold VC_cloneS
  refine bsp_intro (fun hn => ?_) (fun _ => ?_)
  · have hp : p = none := by simpa using hn
    subst hp
    obtain rfl := str_none h
    exact ⟨none, 0, rfl, World.ownsRow_nil _ _ _ _, .refl _ _⟩
  intro n1 W hW
  have kW : K0 w W := hW.kk rfl
  have g1 : w.heap.size ≤ n1 := hW.fresh 0 rfl rfl
  refine ⟨w.heap.size, [], gs.map Value.string, own_none g1 (hW.cells 0 rfl), by simp, src_str (h.k0 kW), by omega, by omega, kW.size, fun p' c' w2 ho2 hg2 _ => ?_⟩
  have k2 := kp_grown hg2
  rw [Nat.zero_add, List.nil_append] at ho2
  have kw2 : K0 w w2 := kW.fresh k2 (fun j hj e => by simp [Value.ownBlock] at e; omega)
  refine ⟨.of_kp k2 (fun z hz => by cases hz), p', c', by rw [Nat.zero_add], ho2, kw2⟩
theorem cloneI_any (l : List (Nat → Int)) (p : Option Addr) (c : Nat) (w : World) (h : RowA idL 32 w p l) (hl : l.length ≤ 1000) :
    Calls Try.prog 44 #[.slice p l.length c] w fun e w' => ∃ (p' : Option Addr) (c' : Nat), e = .returned (.slice p' l.length c') ∧ w'.ownsRow w.heap.size 38 32 (.slice p' l.length c') l.length (l.flatMap idL) ∧ K0 w w' := by
  refine vc_cloneI p l.length c w _ ?_
  unfold VC_cloneI
  refine bsp_intro (fun hn => ?_) (fun _ => ?_)
  · have hp : p = none := by simpa using hn
    subst hp
    obtain rfl := rowA_none h
    exact ⟨none, 0, rfl, World.ownsRow_nil _ _ _ _, .refl _ _⟩
  intro n1 W hW
  have kW : K0 w W := hW.kk rfl
  have g1 : w.heap.size ≤ n1 := hW.fresh 0 rfl rfl
  refine ⟨w.heap.size, [], l.flatMap idL, own_none g1 (hW.cells 0 rfl), idL_flat l, src_ids (h.k0 kW), by omega, by omega, kW.size, fun p' c' w2 ho2 hg2 _ => ?_⟩
  have k2 := kp_grown hg2
  rw [Nat.zero_add, List.nil_append] at ho2
  have kw2 : K0 w w2 := kW.fresh k2 (fun j hj e => by simp [Value.ownBlock] at e; omega)
  refine ⟨.of_kp k2 (fun z hz => by cases hz), p', c', by rw [Nat.zero_add], ho2, kw2⟩

def AX.nw (x : AX) (p : Option Addr) (c : Nat) (q : Option Addr) (d : Nat) : AX := { x with gp := p, gc := c, hp := q, hc := d }
/-- An article whose rows are new. -/
structure AXT (N : Nat) (w : World) (x : AX) : Prop where
  gs : w.ownsRow N 9 1 (.slice x.gp x.gs.length x.gc) x.gs.length (x.gs.map Value.string)
  hs : w.ownsRow N 38 32 (.slice x.hp x.hs.length x.hc) x.hs.length (x.hs.flatMap idL)
theorem AXT.r {N : Nat} {w : World} {x : AX} (h : AXT N w x) : AXR w x := ⟨(own_strP h.gs).2.2.1, RowA.own h.hs idL_length (by decide)⟩
theorem AXT.k {N : Nat} {w w' : World} {x : AX} (h : AXT N w x) (hk : K0 w w') : AXT N w' x := ⟨owns_kp h.gs hk (fun _ _ h => h), owns_kp h.hs hk (fun _ _ h => h)⟩
/-- Blocks of articles are written. -/
theorem AXT.kpT {N : Nat} {M : Nat → Prop} {w w' : World} {x : AX} (h : AXT N w x) (hk : Kp M w w') (hm : ∀ k, M k → ∃ c f, w.heap[k]? = some (.cells c 42 f)) : AXT N w' x :=
  ⟨owns_kp h.gs hk (fun k hk e => by obtain ⟨c, f, hc⟩ := hm k e; exact own_not h.gs hc rfl hk), owns_kp h.hs hk (fun k hk e => by obtain ⟨c, f, hc⟩ := hm k e; exact own_not h.hs hc rfl hk)⟩
def keepB (R : List ((Nat → Int) × Nat)) (x : AX) : Bool := !decide (idI x.id ∈ R.map fun r => idI r.1)
set_option maxRecDepth 100000 in
set_option maxHeartbeats 2000000 in
theorem eafter_any (l : List AX) (p : Option Addr) (c : Nat) (R : List ((Nat → Int) × Nat)) (q : Option Addr) (d : Nat) (w : World) (hA : RowA axC 39 w p l) (hX : ∀ x ∈ l, AXR w x) (hS : RowA whyC 33 w q R) (hl : l.length ≤ 1000) (hr : R.length ≤ 1000) (hb : ∀ x ∈ l, ∀ j, 0 ≤ x.id j ∧ x.id j ≤ 255) (hrb : ∀ r ∈ R, ∀ j, 0 ≤ r.1 j ∧ r.1 j ≤ 255)
    (hg : ∀ x ∈ l, x.gs.length ≤ 1000 ∧ x.hs.length ≤ 1000) :
    Calls Try.prog 25 #[.slice p l.length c, .slice q R.length d] w fun e w' => ∃ (T : List AX) (p' : Option Addr) (c' : Nat), e = .returned (.slice p' T.length c') ∧ T.map AX.core = (l.filter (keepB R)).map AX.core ∧ w'.ownsRow w.heap.size 42 39 (.slice p' T.length c') T.length (T.flatMap axC) ∧ (∀ x ∈ T, AXT w.heap.size w' x) ∧ K0 w w' := by
  refine vc_eafter p l.length c q R.length d w _ ?_
  intro n1 w1 hn1
  have k1 : K0 w w1 := hn1.kp _
  have g1 : w.heap.size ≤ n1 := hn1.ge
  refine ⟨.of_k0 k1, fun vs w' => ∃ (i : Nat) (ml : List (List Int × Value)), vs = [.int .i64 (i : Int)] ∧ i ≤ R.length ∧ MapB Try.prog 38 byA w' n1 ml ∧ (∀ j, (j ∈ (R.take i).map (fun r => idI r.1) → aget ml j = some (Value.bool true)) ∧ (j ∉ (R.take i).map (fun r => idI r.1) → aget ml j = none)) ∧ K0 w w',
    fun vs _ => (match vs with | .int _ x :: _ => R.length - x.toNat | _ => 0), ⟨0, [], rfl, by omega, hn1.map, (fun j => ⟨(fun h => by cases h), fun _ => rfl⟩), k1⟩, ?_⟩
  rintro x w2 ⟨i, ml, hv, hi, hm, hmi, k2⟩
  simp only [List.cons.injEq, Value.int.injEq, true_and, and_true] at hv
  subst hv
  refine bsp_intro (fun hlt => ?_) (fun hge => ?_)
  · have hlt : i < R.length := by simp at hlt; omega
    obtain ⟨r, b, o, hy, hq, hat⟩ := (hS.k0 k2).get hlt
    have hry := hrb r (List.mem_of_getElem? hy)
    refine nn_eq hq ⟨by omega, r.1, (r.2 : Int), by rw [Int.toNat_natCast]; exact hat, fun n3 W3 hW3 => ?_⟩
    have k3 : K0 w2 W3 := hW3.kk rfl
    have hm3 := hm.kp k3 (fun h => h)
    obtain ⟨w4, hu, hm4, k4⟩ := MapB.upd byA_inj hm3 idKeyed Try.underlying97 (idKey (idI_len r.1) (idI_bd hry)) (.bool true)
    have hn3 : n3 ≠ n1 := by
      have h1 := hm.lt
      have h2 := hW3.fresh 0 rfl rfl
      simp only at h2
      omega
    refine ⟨w4, hu, .of_kp k4 (fun m hmm => by simp at hmm; subst hmm; exact hn3), ⟨i + 1, _, by rw [inc64 (by omega)], hlt, hm4, fun j => ?_, Kp.fresh (k2.trans k3) k4 (fun j hj e => by omega)⟩, by rw [inc64 (by omega)]; simp only [Int.toNat_natCast]; omega⟩
    rw [aget_aset, take_snoc hy, List.map_append]
    obtain ⟨m1, m2⟩ := hmi j
    refine ⟨fun hj => ?_, fun hj => ?_⟩
    · by_cases e : idI r.1 = j
      · rw [if_pos e]
      · rw [if_neg e]
        refine m1 ?_
        rcases List.mem_append.1 hj with h | h
        · exact h
        · simp at h; exact absurd h.symm e
    · have h1 : ¬ idI r.1 = j := fun e => hj (List.mem_append_right _ (by simp [e]))
      rw [if_neg h1]
      exact m2 fun h => hj (List.mem_append_left _ h)
  have hi : i = R.length := by simp at hge; omega
  subst hi
  rw [List.take_length] at hmi
  obtain ⟨es, cl, hmb, _⟩ := hm.blk
  -- the articles
  refine ⟨fun vs w' => ∃ (i : Nat) (T : List AX) (p' : Option Addr) (c' : Nat), vs = [.int .i64 (i : Int), .slice p' T.length c'] ∧ i ≤ l.length ∧ T.length ≤ i ∧ T.map AX.core = ((l.take i).filter (keepB R)).map AX.core ∧ w'.ownsRow w.heap.size 42 39 (.slice p' T.length c') T.length (T.flatMap axC) ∧ (∀ x ∈ T, AXT w.heap.size w' x) ∧ MapB Try.prog 38 byA w' n1 ml ∧ K0 w w',
    fun vs _ => (match vs with | .int _ x :: _ => l.length - x.toNat | _ => 0), ⟨0, [], none, 0, rfl, by omega, by simp, rfl, World.ownsRow_nil _ _ _ _, (fun x hx => by cases hx), hm, k2⟩, ?_⟩
  rintro x p1 n2 c1 w3 ⟨i, T, p1', c1', hv, hi, hTi, hcore, ho, hT, hm3, k3⟩
  simp only [List.cons.injEq, Value.int.injEq, Value.slice.injEq, true_and, and_true] at hv
  obtain ⟨rfl, rfl, rfl, rfl⟩ := hv
  refine bsp_intro (fun hlt => ?_) (fun hge => ?_)
  rotate_left
  · have hi : i = l.length := by simp at hge; omega
    rw [hi, List.take_length] at hcore
    exact ⟨T, p1, c1, rfl, hcore, ho, hT, k3⟩
  have hlt : i < l.length := by simp at hlt; omega
  obtain ⟨y, b, o, hy, hp, hat⟩ := (hA.k0 k3).get hlt
  have hyl := List.mem_of_getElem? hy
  have hyb := hb y hyl
  have hyX := hX y hyl
  have hfil : (l.take (i + 1)).filter (keepB R) = (l.take i).filter (keepB R) ++ (if keepB R y = true then [y] else []) := by
    rw [take_snoc hy, List.filter_append]
    congr 1
    cases h : keepB R y <;> simp [h]
  refine nn_eq hp ⟨by omega, y.id, y.dt, y.ar, y.gp, y.gs.length, y.gc, y.by_, y.ct, y.hp, y.hs.length, y.hc, y.wd, by rw [Int.toNat_natCast]; exact hat, fun n4 => ?_⟩
  refine ⟨decide (idI y.id ∈ R.map fun r => idI r.1), fun W4 hW4 => ?_, ?_⟩
  · have := MapB.look byA_inj (hm3.kp (hW4.kk rfl) (fun h => h)) idKeyed Try.underlying97 (zeroBool W4) (idKey (idI_len y.id) (idI_bd hyb)) false
    simp only at this
    by_cases h : idI y.id ∈ R.map fun r => idI r.1
    · rw [(hmi _).1 h] at this
      rw [decide_eq_true h]
      exact this
    · rw [(hmi _).2 h] at this
      rw [decide_eq_false h]
      exact this
  refine bsp_intro (fun hkeep W4 hW4 => ?_) (fun hkeep W4 hW4 => ?_)
  rotate_left
  · have hk : keepB R y = false := by unfold keepB; exact hkeep
    rw [if_neg (by simp [hk]), List.append_nil] at hfil
    have k4 : K0 w3 W4 := hW4.kk rfl
    exact ⟨⟨i + 1, T, p1, c1, by rw [inc64 (by omega)], hlt, by omega, by rw [hfil]; exact hcore, owns_kp ho k4 (fun _ _ h => h), fun x hx => (hT x hx).k k4, hm3.kp k4 (fun h => h), k3.trans k4⟩, by rw [inc64 (by omega)]; simp only [Int.toNat_natCast]; omega⟩
  have hk : keepB R y = true := by unfold keepB; exact hkeep
  rw [if_pos hk] at hfil
  have k4 : K0 w3 W4 := hW4.kk rfl
  have kw4 : K0 w W4 := k3.trans k4
  have hb4 := hW4.cells 0 rfl
  have g4 : w3.heap.size ≤ n4 := hW4.fresh 0 rfl rfl
  refine ⟨fun wx => K0 W4 wx, .refl _ _, y.gp, y.gs.length, y.gc, fun wx kx => cell_at (kx.blk hb4 (fun h => h)) rfl, y.hp, y.hs.length, y.hc, fun wx kx => cell_at (kx.blk hb4 (fun h => h)) rfl, ?_⟩
  refine ⟨(cloneS_any y.gs y.gp y.gc W4 (hyX.gs.k0 kw4) (hg y hyl).1).mono fun e w5 ⟨p5, c5, he, ho5, k5⟩ => ⟨_, _, _, he, k5, ?_⟩⟩
  refine ⟨(cloneI_any y.hs y.hp y.hc w5 (hyX.hs.k0 (kw4.trans k5)) (hg y hyl).2).mono fun e w6 ⟨p6, c6, he, ho6, k6⟩ => ⟨_, _, _, he, ?_⟩⟩
  have k46 : K0 W4 w6 := k5.trans k6
  have hb6 := k46.blk hb4 (fun h => h)
  refine ⟨cell_wr2 hb6 rfl, fun w7 hp7 => ?_⟩
  have hb7 := hp7.block hb6
  refine ⟨cell_wr2 hb7 rfl, fun w8 hp8 => ?_⟩
  have hb8 := hp8.block hb7
  have kp68 : Kp (· = n4) w6 w8 := hp7.kp.trans hp8.kp
  have kw8 : K0 w w8 := Kp.fresh (kw4.trans k46) kp68 (fun j hj e => by have := k3.size; omega)
  refine ⟨.of_kp (M := fun _ => True) ((k46.mono fun _ _ h => h.elim).trans (kp68.mono fun _ _ _ => trivial)) (fun z hz => by cases hz), y.id, y.dt, y.ar, p5, y.gs.length, c5, y.by_, y.ct, p6, y.hs.length, c6, y.wd, AtL_block hb8 rfl, fun n8 W9 hW9 => ?_⟩
  have k9 : K0 w8 W9 := hW9.kk rfl
  -- the row of articles and what it holds
  have isA : ∀ k, k = n4 → ∃ c f, w6.heap[k]? = some (.cells c 42 f) := fun k e => by subst e; exact ⟨_, _, hb6⟩
  have hT9 : ∀ x ∈ T, AXT w.heap.size W9 x := fun x hx => (((hT x hx).k (k4.trans k46)).kpT kp68 isA).k k9
  have hnew : AXT w.heap.size W9 (y.nw p5 c5 p6 c6) := by
    refine (AXT.kpT (w := w6) ⟨?_, ?_⟩ kp68 isA).k k9
    · exact own_base (owns_kp ho5 k6 (fun _ _ h => h)) kw4.size
    · exact own_base ho6 (kw4.trans k5).size
  have ho6r := owns_kp ho (k4.trans k46) (fun _ _ h => h)
  have n4r : ∀ k, (Value.slice p1 T.length c1).ownBlock = some k → ¬ k = n4 := fun k hk e => by
    have := own_lt ho hk
    omega
  have ho9 := owns_kp (owns_kp ho6r kp68 n4r) k9 (fun _ _ h => h)
  have hm9 := ((hm3.kp (k4.trans k46) (fun h => h)).kp kp68 (fun e => by have := hm3.lt; omega)).kp k9 (fun h => h)
  have kw9 : K0 w W9 := kw8.trans k9
  refine ⟨w.heap.size, _, ho9, by omega, by omega, kw9.size, fun p10 c10 w10 ho10 hg10 _ => ?_⟩
  have k10 := kp_grown hg10
  have isR : ∀ k, (Value.slice p1 T.length c1).ownBlock = some k → ∃ c f, W9.heap[k]? = some (.cells c 42 f) := fun k e => by
    obtain ⟨cc, hcc⟩ := own_type ho9 e
    exact ⟨_, _, hcc⟩
  obtain ⟨es9, cl9, hmb9, _⟩ := hm9.blk
  refine ⟨.of_kp k10 (fun z hz => by cases hz), ⟨i + 1, T ++ [(y.nw p5 c5 p6 c6)], p10, c10, by rw [inc64 (by omega)]; simp, hlt, by simp; omega, ?_, ?_, fun x hx => ?_, hm9.kp k10 (own_notMap ho9 hmb9), kw9.fresh k10 (fun j hj e => by have := own_ge ho9 e; omega)⟩, by rw [inc64 (by omega)]; simp only [Int.toNat_natCast]; omega⟩
  · rw [hfil, List.map_append, List.map_append, hcore]
    rfl
  · rw [List.flatMap_append, show (T ++ [(y.nw p5 c5 p6 c6)]).length = T.length + 1 by simp]
    rw [show [(y.nw p5 c5 p6 c6)].flatMap axC = axC (y.nw p5 c5 p6 c6) by simp]
    exact ho10
  · rcases List.mem_append.1 hx with h | h
    · exact (hT9 x h).kpT k10 isR
    · simp at h
      subst h
      exact hnew.kpT k10 isR

end Go.Proofs.Ytmjanmffnblcoaa

/- Chapter 42, plain: what stays, what goes and what the order does to the reference's plan. No program, no condition. -/
namespace Go.Proofs.Ytmjanmffnblcoaa
open Go.Sort

theorem pickR_mem {l : List Rl} {now budget : Int} {hs : List Ar} {a : Ar} {k : Nat} (h : pickR l now budget hs = some (a, k)) : a ∈ hs ∧ goB l now budget hs k a = true ∧ (k = 1 ∨ k = 2 ∨ k = 3) := by
  have key : ∀ {j : Nat} {b : Ar}, bestF (goB l now budget hs j) hs none = some b → b ∈ hs ∧ goB l now budget hs j b = true := fun {j b} hb => by
    have := best_min (P := goB l now budget hs j) hs none (fun x hx => by cases hx)
    rw [hb] at this
    exact ⟨this.1.resolve_right (fun e => by cases e), this.2.1⟩
  unfold pickR at h
  split at h
  · rename_i b hb; cases h; exact ⟨(key hb).1, (key hb).2, .inl rfl⟩
  · split at h
    · rename_i b hb; cases h; exact ⟨(key hb).1, (key hb).2, .inr (.inl rfl)⟩
    · split at h
      · rename_i b hb; cases h; exact ⟨(key hb).1, (key hb).2, .inr (.inr rfl)⟩
      · cases h
theorem pickR_none {l : List Rl} {now budget : Int} {hs : List Ar} (h : pickR l now budget hs = none) {k : Nat} (hk : k = 1 ∨ k = 2 ∨ k = 3) {a : Ar} (ha : a ∈ hs) : goB l now budget hs k a = false := by
  have key : ∀ {j : Nat}, bestF (goB l now budget hs j) hs none = none → goB l now budget hs j a = false := fun {j} hb => by
    have := best_min (P := goB l now budget hs j) hs none (fun x hx => by cases hx)
    rw [hb] at this
    exact this.2 a ha
  unfold pickR at h
  split at h
  · cases h
  · rename_i h1
    split at h
    · cases h
    · rename_i h2
      split at h
      · cases h
      · rename_i h3
        rcases hk with rfl | rfl | rfl
        · exact key h1
        · exact key h2
        · exact key h3
/-- The plan and what stays. -/
theorem refp_stays {l : List Rl} {now budget : Int} : ∀ (n : Nat) (hs : List Ar), ArsOK hs → (refP l now budget n hs).2 = hs.filter (fun a => !decide (a.id ∈ (refP l now budget n hs).1.map (·.1))) ∧ (refP l now budget n hs).1.length + (refP l now budget n hs).2.length = hs.length
  | 0, hs, _ => ⟨(List.filter_eq_self.2 (fun _ _ => by simp [refP])).symm, by simp [refP]⟩
  | n + 1, hs, hok => by
    cases hk : pickR l now budget hs with
    | none =>
      have e : refP l now budget (n + 1) hs = ([], hs) := by simp only [refP, hk]
      rw [e]
      exact ⟨(List.filter_eq_self.2 (fun _ _ => by simp)).symm, by simp⟩
    | some ak =>
      obtain ⟨a, k⟩ := ak
      obtain ⟨h1, h2⟩ := refp_stays (l := l) (now := now) (budget := budget) n (without hs a.id) (hok.sub (without_sub _ _))
      have ha := (pickR_mem hk).1
      have hl := without_len hok ha
      have e : refP l now budget (n + 1) hs = ((a.id, k) :: (refP l now budget n (without hs a.id)).1, (refP l now budget n (without hs a.id)).2) := by simp only [refP, hk]
      rw [e]
      refine ⟨?_, by simp only [List.length_cons]; omega⟩
      simp only
      rw [h1]
      unfold without
      rw [List.filter_filter]
      refine List.filter_congr fun x _ => ?_
      simp only [List.map_cons, List.mem_cons]
      by_cases e : x.id = a.id
      · simp [e]
      · simp [e]
theorem refp_end {l : List Rl} {now budget : Int} : ∀ (n : Nat) (hs : List Ar), ArsOK hs → hs.length ≤ n → pickR l now budget (refP l now budget n hs).2 = none
  | 0, hs, _, hl => by
    have : hs = [] := List.eq_nil_of_length_eq_zero (by omega)
    subst this
    rfl
  | n + 1, hs, hok, hl => by
    simp only [refP]
    cases hk : pickR l now budget hs with
    | none => exact hk
    | some ak =>
      obtain ⟨a, k⟩ := ak
      have := without_len hok (pickR_mem hk).1
      exact refp_end n (without hs a.id) (hok.sub (without_sub _ _)) (by omega)
/-- What goes may go. -/
theorem refp_safe {l : List Rl} {now budget : Int} (hl : ∀ r ∈ l, 0 ≤ r.lo ∧ r.lo ≤ r.hi ∧ r.hi ≤ 36500) : ∀ (n : Nat) (hs : List Ar), ArsOK hs → ∀ a ∈ hs, a.id ∈ (refP l now budget n hs).1.map (·.1) →
    permK a.ct = false ∧ (a.wd = true ∨ mayB l now a = true) ∧ ∀ h ∈ a.holds, hereB (refP l now budget n hs).2 h = false
  | 0, hs, _, a, _, h => by simp [refP] at h
  | n + 1, hs, hok, a, ha, h => by
    simp only [refP] at h ⊢
    cases hk : pickR l now budget hs with
    | none => rw [hk] at h; simp at h
    | some bk =>
      obtain ⟨b, k⟩ := bk
      rw [hk] at h
      simp only [List.map_cons, List.mem_cons] at h
      have hsub := (refp_stays (l := l) (now := now) (budget := budget) n (without hs b.id) (hok.sub (without_sub _ _))).1
      by_cases e : a.id = b.id
      · obtain ⟨hb, hgo, hk3⟩ := pickR_mem hk
        have : a = b := nodup_inj hok.nd ha hb e
        subst this
        unfold goB protB at hgo
        simp only [Bool.and_eq_true, Bool.not_eq_true', Bool.or_eq_false_iff] at hgo
        obtain ⟨h1, h2, h3⟩ := hgo
        refine ⟨?_, ?_, fun i hi => ?_⟩
        · unfold fixB at h2
          simp only [Bool.or_eq_false_iff] at h2
          exact h2.1
        · have hd := daysR_bd hl a.gs
          rcases hk3 with rfl | rfl | rfl
          · unfold reasB at h1; simp at h1; exact .inl h1.1
          · unfold reasB overB at h1; simp at h1; refine .inr ?_; unfold mayB; simp; omega
          · unfold reasB at h1; simp at h1; exact .inr h1.2
        · have hno := List.any_eq_false.1 h3 i hi
          refine here_sub (fun x hx => ?_) (by simpa using hno)
          simp only at hx
          rw [hsub] at hx
          exact (List.mem_filter.1 (List.mem_filter.1 hx).1).1
      · have ha' : a ∈ without hs b.id := List.mem_filter.2 ⟨ha, by simp [e]⟩
        have h : a.id ∈ (refP l now budget n (without hs b.id)).1.map (·.1) := h.resolve_left e
        exact refp_safe hl n (without hs b.id) (hok.sub (without_sub _ _)) a ha' h
/-! ### The order -/
theorem best_perm {P : Ar → Bool} {h h' : List Ar} (hp : h.Perm h') (hok : ArsOK h) : bestF P h none = bestF P h' none := by
  have b1 := best_min (P := P) h none (fun x hx => by cases hx)
  have b2 := best_min (P := P) h' none (fun x hx => by cases hx)
  cases e1 : bestF P h none with
  | none =>
    rw [e1] at b1
    cases e2 : bestF P h' none with
    | none => rfl
    | some a =>
      rw [e2] at b2
      have ha := b2.1.resolve_right (fun e => by cases e)
      have := b1.2 a (hp.mem_iff.2 ha)
      rw [b2.2.1] at this
      cases this
  | some a =>
    rw [e1] at b1
    have ha := b1.1.resolve_right (fun e => by cases e)
    cases e2 : bestF P h' none with
    | none =>
      rw [e2] at b2
      have := b2.2 a (hp.mem_iff.1 ha)
      rw [b1.2.1] at this
      cases this
    | some b =>
      rw [e2] at b2
      have hb := hp.mem_iff.2 (b2.1.resolve_right (fun e => by cases e))
      have c1 := b1.2.2.1 b hb b2.2.1
      have c2 := b2.2.2.1 a (hp.mem_iff.1 ha) b1.2.1
      have := cfK_ord.anti (keyA a) (keyA b)
      rw [hok.inj ha hb (cfK_zero (by omega))]
theorem pickR_perm {l : List Rl} {now budget : Int} {h h' : List Ar} (hp : h.Perm h') (hok : ArsOK h) : pickR l now budget h = pickR l now budget h' := by
  unfold pickR
  rw [best_perm hp hok, best_perm hp hok, best_perm hp hok, go_perm hp 1, go_perm hp 2, go_perm hp 3]
theorem ref_perm {l : List Rl} {now budget : Int} : ∀ (n : Nat) (h h' : List Ar), h.Perm h' → ArsOK h → (refP l now budget n h).1 = (refP l now budget n h').1
  | 0, _, _, _, _ => rfl
  | n + 1, h, h', hp, hok => by
    simp only [refP, pickR_perm hp hok]
    cases hk : pickR l now budget h' with
    | none => rfl
    | some ak =>
      obtain ⟨a, k⟩ := ak
      simp only [ref_perm n (without h a.id) (without h' a.id) (hp.filter _) (hok.sub (without_sub _ _))]
/-! ### Errors -/
theorem errA_of : ∀ {l : List Ar} {seen : List (List Int)}, (∀ a ∈ l, arBad a = false) → (seen ++ l.map (·.id)).Nodup → errA seen l = 0
  | [], _, _, _ => rfl
  | a :: l, seen, h1, h2 => by
    have e : errA seen (a :: l) = if arBad a = true then 2 else if a.id ∈ seen then 7 else errA (seen ++ [a.id]) l := rfl
    rw [e, if_neg (by rw [h1 a (by simp)]; decide), if_neg, errA_of (fun x hx => h1 x (by simp [hx])) (by simpa using h2)]
    intro hm
    rw [List.map_cons, List.nodup_append] at h2
    exact h2.2.2 _ hm _ (by simp) rfl
theorem planErr_sub {L : List Rl} {l l' : List Ar} {now budget : Int} (h : planErr L l now budget = 0) (hs : l'.Sublist l) : planErr L l' now budget = 0 := by
  unfold planErr at h ⊢
  split at h
  · rename_i h1; exact absurd h h1
  · rename_i h1
    rw [if_neg h1]
    split at h
    · cases h
    · rename_i h2
      rw [if_neg h2]
      obtain ⟨a, b⟩ := errA_ok .nil h
      exact errA_of (fun x hx => a x (hs.subset hx)) (by
        rw [List.nil_append] at b ⊢
        exact b.sublist (hs.map _))
theorem planErr_perm {L : List Rl} {l l' : List Ar} {now budget : Int} (h : planErr L l now budget = 0) (hs : l.Perm l') : planErr L l' now budget = 0 := by
  unfold planErr at h ⊢
  split at h
  · rename_i h1; exact absurd h h1
  · rename_i h1
    rw [if_neg h1]
    split at h
    · cases h
    · rename_i h2
      rw [if_neg h2]
      obtain ⟨a, b⟩ := errA_ok .nil h
      exact errA_of (fun x hx => a x (hs.mem_iff.2 hx)) (by
        rw [List.nil_append] at b ⊢
        exact (hs.map _).nodup_iff.1 b)
theorem planErr_parts {L : List Rl} {l : List Ar} {now budget : Int} (h : planErr L l now budget = 0) : chkR L = 0 ∧ (0 ≤ now ∧ now ≤ 105190559) ∧ 0 ≤ budget ∧ (∀ a ∈ l, arBad a = false) ∧ (l.map (·.id)).Nodup := by
  unfold planErr at h
  split at h
  · rename_i h1; exact absurd h h1
  · rename_i h1
    split at h
    · cases h
    · rename_i h2
      obtain ⟨a, b⟩ := errA_ok .nil h
      simp only [Bool.or_eq_true, not_or, Bool.not_eq_true', decide_eq_true_eq] at h2
      unfold minB at h2
      simp only [Bool.and_eq_false_iff, not_or, decide_eq_false_iff_not, Classical.not_not] at h2
      exact ⟨by simpa using h1, by omega, by omega, a, by simpa using b⟩

end Go.Proofs.Ytmjanmffnblcoaa

/- The formulas of functions by the symbolic evaluator, and that each gives the call's contract. Written by a program (gen.py). No condition. -/
namespace Go.Proofs.Ytmjanmffnblcoaa
set_option maxRecDepth 100000
set_option linter.unusedVariables false

def VC_lorder (p : Option Addr) (n : Nat) (c : Nat) (q : Option Addr) (k : Nat) (d : Nat) (now : Int) (budget : Int) (p3 : Option Addr) (n3 : Nat) (c3 : Nat) (w : World) (R : Ending → World → Prop) : Prop :=
 ∀ (n_1 : Nat) (W : World),
 Loc w.heap.size
 [Blk.mk n_1 25 [Value.slice p n c, Value.slice q k d, Value.int IntKind.i64 now, Value.int IntKind.i64 budget] 2] w
 W →
 CallsS Try.prog 10 #[] W fun (e : Ending) (w' : World) =>
 ∃ (x : Bool),
 e = Ending.returned (Value.bool x) ∧
 KeptL [n_1] W w' ∧
 ∃ (p_1 : Option Addr),
 ∃ (n_2 : Nat),
 ∃ (c_1 : Nat),
 gimp (!!x) (w'.cell? (Addr.mk n_1 0 none) = some (Value.slice p_1 n_2 c_1)) ∧
 ∃ (p_2 : Option Addr),
 ∃ (n_3 : Nat),
 ∃ (c_2 : Nat),
 gimp (!!x) (w'.cell? (Addr.mk n_1 (0 + 1) none) = some (Value.slice p_2 n_3 c_2)) ∧
 bsp (!!x)
 (CallsS Try.prog 11 #[Value.slice p_1 n_2 c_1, Value.slice p_2 n_3 c_2] w'
 fun (e : Ending) (w'_1 : World) =>
 ∃ (x : Bool),
 e = Ending.returned (Value.bool x) ∧
 KeptL [n_1] w' w'_1 ∧
 bsp (false || !x || decide ((↑n3 : Int) > 40))
 (CallsS Try.prog 10 #[] w'_1 fun (e : Ending) (w' : World) =>
 ∃ (x : Bool),
 e = Ending.returned (Value.bool x) ∧ KeptL [n_1] w'_1 w' ∧ R (Ending.returned (Value.bool x)) w')
 (∀ (W : World),
 Loc w.heap.size
 [Blk.mk n_1 25
 [Value.slice p n c, Value.slice q k d, Value.int IntKind.i64 now, Value.int IntKind.i64 budget]
 0]
 w'_1 W →
 ∃ (S : World → Prop),
 S W ∧
 ∃ (p_3 : Option Addr),
 ∃ (n_4 : Nat),
 ∃ (c_3 : Nat),
 (∀ (w' : World), S w' → w'.cell? (Addr.mk n_1 0 none) = some (Value.slice p_3 n_4 c_3)) ∧
 ∃ (p_4 : Option Addr),
 ∃ (n_5 : Nat),
 ∃ (c_4 : Nat),
 (∀ (w' : World),
 S w' → w'.cell? (Addr.mk n_1 (0 + 1) none) = some (Value.slice p_4 n_5 c_4)) ∧
 CallsS Try.prog 12 #[Value.slice p_3 n_4 c_3] W fun (e : Ending) (w' : World) =>
 ∃ (p_5 : Option Addr),
 ∃ (n_6 : Nat),
 ∃ (c_5 : Nat),
 e = Ending.returned (Value.slice p_5 n_6 c_5) ∧
 S w' ∧
 CallsS Try.prog 13 #[Value.slice p_4 n_5 c_4] w' fun (e : Ending) (w' : World) =>
 ∃ (p_6 : Option Addr),
 ∃ (n_7 : Nat),
 ∃ (c_6 : Nat),
 e = Ending.returned (Value.slice p_6 n_7 c_6) ∧
 KeptL [n_1] W w' ∧
 CallsS Try.prog 14
 #[Value.slice p_5 n_6 c_5, Value.slice p_6 n_7 c_6,
 Value.int IntKind.i64 now, Value.int IntKind.i64 budget]
 w' fun (e : Ending) (w'_2 : World) =>
 ∃ (p_7 : Option Addr),
 ∃ (n_8 : Nat),
 ∃ (c_7 : Nat),
 ∃ (x : Int),
 e =
 Ending.returned
 (Value.tuple #[Value.slice p_7 n_8 c_7, Value.int IntKind.i64 x]) ∧
 KeptL [n_1] w' w'_2 ∧
 bsp (x != 0) (R (Ending.returned (Value.bool true)) w'_2)
 (∃ (I : List Value → World → Prop),
 ∃ (m : List Value → World → Nat),
 I [Value.int IntKind.i64 0] w'_2 ∧
 ∀ (x : Int) (w' : World),
 I [Value.int IntKind.i64 x] w' →
 Loc w.heap.size
 [Blk.mk n_1 25
 [Value.slice p n c, Value.slice q k d,
 Value.int IntKind.i64 now, Value.int IntKind.i64 budget]
 0]
 w' w' →
 bsp (decide (x < (↑n3 : Int)) && decide ((↑n_7 : Int) > 0))
 ((IntKind.i64 = IntKind.i64 ∧ (↑n_7 : Int) ≠ 0) ∧
 nn true p3 fun (b o : Nat) =>
 (0 ≤ x ∧ x < (↑n3 : Int)) ∧
 ∃ (x_1 : Int),
 (∀ (W : World),
 Loc w.heap.size
 [Blk.mk n_1 25
 [Value.slice p n c, Value.slice q k d,
 Value.int IntKind.i64 now,
 Value.int IntKind.i64 budget]
 0]
 w' W →
 W.cell? (Addr.mk b (o + x.toNat) none) =
 some (Value.int IntKind.u8 x_1)) ∧
 (IntKind.i64 = IntKind.i64 ∧ (↑n_7 : Int) ≠ 0) ∧
 ∀ (W : World),
 Loc w.heap.size
 [Blk.mk n_1 25
 [Value.slice p n c, Value.slice q k d,
 Value.int IntKind.i64 now,
 Value.int IntKind.i64 budget]
 0]
 w' W →
 ∃ (S : World → Prop),
 S W ∧
 nn true p_6 fun (b o : Nat) =>
 (0 ≤ (IntKind.i64.wrap x_1).tmod (↑n_7 : Int) ∧
 (IntKind.i64.wrap x_1).tmod (↑n_7 : Int) <
 (↑n_7 : Int)) ∧
 ∃ (f : Nat → Int),
 ∃ (x_2 : Int),
 ∃ (x_3 : Int),
 ∃ (p : Option Addr),
 ∃ (n : Nat),
 ∃ (c : Nat),
 ∃ (x_4 : Int),
 ∃ (x_5 : Int),
 ∃ (p_8 : Option Addr),
 ∃ (n_9 : Nat),
 ∃ (c_8 : Nat),
 ∃ (x_6 : Bool),
 (∀ (w' : World),
 S w' →
 AtL w' b
 (o +
 ((IntKind.i64.wrap x_1).tmod
 (↑n_7 : Int)).toNat *
 39)
 (arrI IntKind.u8 f 32 0 ++ [Value.int IntKind.i64 x_2,
 Value.int IntKind.i64 x_3,
 Value.slice p n c,
 Value.int IntKind.i64 x_4,
 Value.int IntKind.i64 x_5,
 Value.slice p_8 n_9 c_8,
 Value.bool x_6])) ∧
 nn true p_6 fun (b o : Nat) =>
 (0 ≤ x.tmod (↑n_7 : Int) ∧
 x.tmod (↑n_7 : Int) <
 (↑n_7 : Int)) ∧
 ∃ (f_1 : Nat → Int),
 ∃ (x_7 : Int),
 ∃ (x_8 : Int),
 ∃ (p_9 : Option Addr),
 ∃ (n_10 : Nat),
 ∃ (c_9 : Nat),
 ∃ (x_9 : Int),
 ∃ (x_10 : Int),
 ∃ (p_10 : Option Addr),
 ∃ (n_11 : Nat),
 ∃ (c_10 : Nat),
 ∃ (x_11 : Bool),
 (∀ (w' : World),
 S w' →
 AtL w' b
 (o +
 (x.tmod
 (↑n_7 :
 Int)).toNat *
 39)
 (arrI IntKind.u8 f_1 32 0 ++ [Value.int
 IntKind.i64 x_7,
 Value.int
 IntKind.i64 x_8,
 Value.slice p_9
 n_10 c_9,
 Value.int
 IntKind.i64 x_9,
 Value.int
 IntKind.i64
 x_10,
 Value.slice p_10
 n_11 c_10,
 Value.bool
 x_11])) ∧
 nn true p_6
 fun (b o : Nat) =>
 (0 ≤
 x.tmod
 (↑n_7 : Int) ∧
 x.tmod
 (↑n_7 : Int) <
 (↑n_7 : Int)) ∧
 WrL W b
 (o +
 (x.tmod
 (↑n_7 :
 Int)).toNat *
 39)
 39 ∧
 ∀ (w1 : World),
 PutB W b
 (o +
 (x.tmod
 (↑n_7 :
 Int)).toNat *
 39)
 (arrI IntKind.u8 f 32 0 ++ [Value.int
 IntKind.i64
 x_2,
 Value.int
 IntKind.i64
 x_3,
 Value.slice p
 n c,
 Value.int
 IntKind.i64
 x_4,
 Value.int
 IntKind.i64
 x_5,
 Value.slice
 p_8 n_9 c_8,
 Value.bool
 x_6])
 w1 →
 nn true p_6
 fun
 (b o : Nat) =>
 (0 ≤
 (IntKind.i64.wrap
 x_1).tmod
 (↑n_7 :
 Int) ∧
 (IntKind.i64.wrap
 x_1).tmod
 (↑n_7 :
 Int) <
 (↑n_7 :
 Int)) ∧
 WrL w1 b
 (o +
 ((IntKind.i64.wrap
 x_1).tmod
 (↑n_7 :
 Int)).toNat *
 39)
 39 ∧
 ∀
 (w1_1 :
 World),
 PutB w1 b
 (o +
 ((IntKind.i64.wrap
 x_1).tmod
 (↑n_7 :
 Int)).toNat *
 39)
 (arrI IntKind.u8 f_1 32 0 ++ [Value.int
 IntKind.i64
 x_7,
 Value.int
 IntKind.i64
 x_8,
 Value.slice
 p_9 n_10
 c_9,
 Value.int
 IntKind.i64
 x_9,
 Value.int
 IntKind.i64
 x_10,
 Value.slice
 p_10
 n_11
 c_10,
 Value.bool
 x_11])
 w1_1 →
 KeptL [n_1]
 W w1_1 ∧
 I
 [Value.int
 IntKind.i64
 (IntKind.i64.wrap
 (x +
 1))]
 w1_1 ∧
 m
 [Value.int
 IntKind.i64
 (IntKind.i64.wrap
 (x +
 1))]
 w1_1 <
 m
 [Value.int
 IntKind.i64
 x]
 w')
 (CallsS Try.prog 14
 #[Value.slice p_5 n_6 c_5, Value.slice p_6 n_7 c_6,
 Value.int IntKind.i64 now, Value.int IntKind.i64 budget]
 w' fun (e : Ending) (w'_3 : World) =>
 ∃ (p_8 : Option Addr),
 ∃ (n_9 : Nat),
 ∃ (c_8 : Nat),
 ∃ (x : Int),
 e =
 Ending.returned
 (Value.tuple
 #[Value.slice p_8 n_9 c_8,
 Value.int IntKind.i64 x]) ∧
 KeptL [n_1] w' w'_3 ∧
 bsp (x != 0 || (↑n_8 : Int) != (↑n_9 : Int))
 (R (Ending.returned (Value.bool false)) w'_3)
 (∃ (I : List Value → World → Prop),
 ∃ (m : List Value → World → Nat),
 I [Value.int IntKind.i64 0] w'_3 ∧
 ∀ (x : Int) (w' : World),
 I [Value.int IntKind.i64 x] w' →
 Loc w.heap.size
 [Blk.mk n_1 25
 [Value.slice p n c, Value.slice q k d,
 Value.int IntKind.i64 now,
 Value.int IntKind.i64 budget]
 0]
 w' w' →
 bsp (decide (x < (↑n_8 : Int)))
 (nn true p_7 fun (b o : Nat) =>
 (0 ≤ x ∧ x < (↑n_8 : Int)) ∧
 ∃ (f : Nat → Int),
 ∃ (x_1 : Int),
 (∀ (W : World),
 Loc w.heap.size
 [Blk.mk n_1 25
 [Value.slice p n c,
 Value.slice q k d,
 Value.int IntKind.i64 now,
 Value.int IntKind.i64 budget]
 0]
 w' W →
 AtL W b (o + x.toNat * 33)
 (arrI IntKind.u8 f 32 0 ++ [Value.int IntKind.i64 x_1])) ∧
 nn true p_8 fun (b o : Nat) =>
 (0 ≤ x ∧ x < (↑n_9 : Int)) ∧
 ∃ (f_1 : Nat → Int),
 ∃ (x_2 : Int),
 (∀ (W : World),
 Loc w.heap.size
 [Blk.mk n_1 25
 [Value.slice p n c,
 Value.slice q k d,
 Value.int IntKind.i64 now,
 Value.int IntKind.i64 budget]
 0]
 w' W →
 AtL W b (o + x.toNat * 33)
 (arrI IntKind.u8 f_1 32 0 ++ [Value.int IntKind.i64 x_2])) ∧
 ∃ (r : Bool),
 EqP Try.prog 44
 (Value.agg
 (arrI IntKind.u8 f 32 0 ++ [Value.int IntKind.i64 x_1]).toArray)
 (Value.agg
 (arrI IntKind.u8 f_1 32 0 ++ [Value.int IntKind.i64 x_2]).toArray)
 r ∧
 bsp (!r)
 (∀ (W : World),
 Loc w.heap.size
 [Blk.mk n_1 25
 [Value.slice p n c,
 Value.slice q k d,
 Value.int IntKind.i64 now,
 Value.int IntKind.i64
 budget]
 0]
 w' W →
 R
 (Ending.returned
 (Value.bool false))
 W)
 (∀ (W : World),
 Loc w.heap.size
 [Blk.mk n_1 25
 [Value.slice p n c,
 Value.slice q k d,
 Value.int IntKind.i64 now,
 Value.int IntKind.i64
 budget]
 0]
 w' W →
 I
 [Value.int IntKind.i64
 (IntKind.i64.wrap (x + 1))]
 W ∧
 m
 [Value.int IntKind.i64
 (IntKind.i64.wrap
 (x + 1))]
 W <
 m [Value.int IntKind.i64 x]
 w'))
 (R (Ending.returned (Value.bool true))
 w'))))))
 (KeptL [n_1] w' w' ∧
 CallsS Try.prog 10 #[] w' fun (e : Ending) (w'_1 : World) =>
 ∃ (x : Bool),
 e = Ending.returned (Value.bool x) ∧ KeptL [n_1] w' w'_1 ∧ R (Ending.returned (Value.bool x)) w'_1)
theorem vc_lorder (p : Option Addr) (n : Nat) (c : Nat) (q : Option Addr) (k : Nat) (d : Nat) (now : Int) (budget : Int) (p3 : Option Addr) (n3 : Nat) (c3 : Nat) (w : World) (R : Ending → World → Prop) (h : VC_lorder p n c q k d now budget p3 n3 c3 w R) : Calls Try.prog 3 ([Value.agg
    #[Value.slice p n c, Value.slice q k d, Value.int IntKind.i64 now, Value.int IntKind.i64 budget],
  Value.slice p3 n3 c3] : List Value).toArray w R := by
  have e : execR2 { P := Try.prog, loops := [(8, [(9, Ck.int IntKind.i64)]), (16, [(14, Ck.int IntKind.i64)])], pur := pur2, tails := [(3, 2), (11, 13)], joins := [], boxes := [] } Try.f3.results.toList R (Try.f3.body.getD .skip) (initF [Value.agg
    #[Value.slice p n c, Value.slice q k d, Value.int IntKind.i64 now, Value.int IntKind.i64 budget],
  Value.slice p3 n3
    c3] (Try.f3.ntmps - ([Value.agg
    #[Value.slice p n c, Value.slice q k d, Value.int IntKind.i64 now, Value.int IntKind.i64 budget],
  Value.slice p3 n3 c3] : List Value).length)) w = VC_lorder p n c q k d now budget p3 n3 c3 w R := by kernel_rfl
  have hb : Try.f3.body = some (Try.f3.body.getD .skip) := by kernel_rfl
  exact calls_of_exec2' (P := Try.prog) (fn := Try.f3) (c := Try.f3.body.getD .skip) (args := [Value.agg
    #[Value.slice p n c, Value.slice q k d, Value.int IntKind.i64 now, Value.int IntKind.i64 budget],
  Value.slice p3 n3 c3]) (w := w) (R := R) pur2_ok Try.func3 hb e h

def VC_lagain (p : Option Addr) (n : Nat) (c : Nat) (q : Option Addr) (k : Nat) (d : Nat) (now : Int) (budget : Int) (w : World) (R : Ending → World → Prop) : Prop :=
 ∀ (n_1 : Nat) (W : World),
 Loc w.heap.size
 [Blk.mk n_1 25 [Value.slice p n c, Value.slice q k d, Value.int IntKind.i64 now, Value.int IntKind.i64 budget] 2] w
 W →
 CallsS Try.prog 10 #[] W fun (e : Ending) (w' : World) =>
 ∃ (x : Bool),
 e = Ending.returned (Value.bool x) ∧
 KeptL [n_1] W w' ∧
 ∃ (p_1 : Option Addr),
 ∃ (n_2 : Nat),
 ∃ (c_1 : Nat),
 gimp (!!x) (w'.cell? (Addr.mk n_1 0 none) = some (Value.slice p_1 n_2 c_1)) ∧
 ∃ (p_2 : Option Addr),
 ∃ (n_3 : Nat),
 ∃ (c_2 : Nat),
 gimp (!!x) (w'.cell? (Addr.mk n_1 (0 + 1) none) = some (Value.slice p_2 n_3 c_2)) ∧
 bsp (!!x)
 (CallsS Try.prog 11 #[Value.slice p_1 n_2 c_1, Value.slice p_2 n_3 c_2] w'
 fun (e : Ending) (w'_1 : World) =>
 ∃ (x : Bool),
 e = Ending.returned (Value.bool x) ∧
 KeptL [n_1] w' w'_1 ∧
 bsp (false || !x)
 (CallsS Try.prog 10 #[] w'_1 fun (e : Ending) (w' : World) =>
 ∃ (x : Bool),
 e = Ending.returned (Value.bool x) ∧ KeptL [n_1] w'_1 w' ∧ R (Ending.returned (Value.bool x)) w')
 (∀ (W : World),
 Loc w.heap.size
 [Blk.mk n_1 25
 [Value.slice p n c, Value.slice q k d, Value.int IntKind.i64 now, Value.int IntKind.i64 budget]
 0]
 w'_1 W →
 ∃ (S : World → Prop),
 S W ∧
 ∃ (p_3 : Option Addr),
 ∃ (n_4 : Nat),
 ∃ (c_3 : Nat),
 (∀ (w' : World), S w' → w'.cell? (Addr.mk n_1 0 none) = some (Value.slice p_3 n_4 c_3)) ∧
 ∃ (p_4 : Option Addr),
 ∃ (n_5 : Nat),
 ∃ (c_4 : Nat),
 (∀ (w' : World),
 S w' → w'.cell? (Addr.mk n_1 (0 + 1) none) = some (Value.slice p_4 n_5 c_4)) ∧
 CallsS Try.prog 12 #[Value.slice p_3 n_4 c_3] W fun (e : Ending) (w' : World) =>
 ∃ (p_5 : Option Addr),
 ∃ (n_6 : Nat),
 ∃ (c_5 : Nat),
 e = Ending.returned (Value.slice p_5 n_6 c_5) ∧
 S w' ∧
 CallsS Try.prog 13 #[Value.slice p_4 n_5 c_4] w' fun (e : Ending) (w' : World) =>
 ∃ (p_6 : Option Addr),
 ∃ (n_7 : Nat),
 ∃ (c_6 : Nat),
 e = Ending.returned (Value.slice p_6 n_7 c_6) ∧
 KeptL [n_1] W w' ∧
 CallsS Try.prog 14
 #[Value.slice p_5 n_6 c_5, Value.slice p_6 n_7 c_6,
 Value.int IntKind.i64 now, Value.int IntKind.i64 budget]
 w' fun (e : Ending) (w'_2 : World) =>
 ∃ (p_7 : Option Addr),
 ∃ (n_8 : Nat),
 ∃ (c_7 : Nat),
 ∃ (x : Int),
 e =
 Ending.returned
 (Value.tuple #[Value.slice p_7 n_8 c_7, Value.int IntKind.i64 x]) ∧
 KeptL [n_1] w' w'_2 ∧
 bsp (x != 0) (R (Ending.returned (Value.bool true)) w'_2)
 (∀ (W : World),
 Loc w.heap.size
 [Blk.mk n_1 25
 [Value.slice p n c, Value.slice q k d,
 Value.int IntKind.i64 now, Value.int IntKind.i64 budget]
 0]
 w'_2 W →
 ∃ (S : World → Prop),
 S W ∧
 ∃ (x : Int),
 (∀ (w' : World),
 S w' →
 w'.cell? (Addr.mk n_1 (0 + 2) none) =
 some (Value.int IntKind.i64 x)) ∧
 ∃ (x_1 : Int),
 (∀ (w' : World),
 S w' →
 w'.cell? (Addr.mk n_1 (0 + 3) none) =
 some (Value.int IntKind.i64 x_1)) ∧
 CallsS Try.prog 25
 #[Value.slice p_6 n_7 c_6, Value.slice p_7 n_8 c_7] W
 fun (e : Ending) (w' : World) =>
 ∃ (p : Option Addr),
 ∃ (n : Nat),
 ∃ (c : Nat),
 e = Ending.returned (Value.slice p n c) ∧
 S w' ∧
 CallsS Try.prog 14
 #[Value.slice p_5 n_6 c_5, Value.slice p n c,
 Value.int IntKind.i64 x, Value.int IntKind.i64 x_1]
 w' fun (e : Ending) (w' : World) =>
 ∃ (p : Option Addr),
 ∃ (n : Nat),
 ∃ (c : Nat),
 ∃ (x : Int),
 e =
 Ending.returned
 (Value.tuple
 #[Value.slice p n c,
 Value.int IntKind.i64 x]) ∧
 KeptL [n_1] W w' ∧
 R
 (Ending.returned
 (Value.bool (x == 0 && (↑n : Int) == 0)))
 w')))
 (KeptL [n_1] w' w' ∧
 CallsS Try.prog 10 #[] w' fun (e : Ending) (w'_1 : World) =>
 ∃ (x : Bool),
 e = Ending.returned (Value.bool x) ∧ KeptL [n_1] w' w'_1 ∧ R (Ending.returned (Value.bool x)) w'_1)
theorem vc_lagain (p : Option Addr) (n : Nat) (c : Nat) (q : Option Addr) (k : Nat) (d : Nat) (now : Int) (budget : Int) (w : World) (R : Ending → World → Prop) (h : VC_lagain p n c q k d now budget w R) : Calls Try.prog 9 ([Value.agg
    #[Value.slice p n c, Value.slice q k d, Value.int IntKind.i64 now,
      Value.int IntKind.i64 budget]] : List Value).toArray w R := by
  have e : execR2 { P := Try.prog, loops := [], pur := pur2, tails := [(3, 2), (7, 3)], joins := [], boxes := [] } Try.f9.results.toList R (Try.f9.body.getD .skip) (initF [Value.agg
    #[Value.slice p n c, Value.slice q k d, Value.int IntKind.i64 now,
      Value.int IntKind.i64
        budget]] (Try.f9.ntmps - ([Value.agg
    #[Value.slice p n c, Value.slice q k d, Value.int IntKind.i64 now,
      Value.int IntKind.i64 budget]] : List Value).length)) w = VC_lagain p n c q k d now budget w R := by kernel_rfl
  have hb : Try.f9.body = some (Try.f9.body.getD .skip) := by kernel_rfl
  exact calls_of_exec2' (P := Try.prog) (fn := Try.f9) (c := Try.f9.body.getD .skip) (args := [Value.agg
    #[Value.slice p n c, Value.slice q k d, Value.int IntKind.i64 now,
      Value.int IntKind.i64 budget]]) (w := w) (R := R) pur2_ok Try.func9 hb e h

end Go.Proofs.Ytmjanmffnblcoaa

/- The formulas of functions by the symbolic evaluator, and that each gives the call's contract. Written by a program (gen.py). No condition. -/
namespace Go.Proofs.Ytmjanmffnblcoaa
set_option maxRecDepth 100000
set_option linter.unusedVariables false

def VC_lplan (p : Option Addr) (n : Nat) (c : Nat) (q : Option Addr) (k : Nat) (d : Nat) (now : Int) (budget : Int) (w : World) (R : Ending → World → Prop) : Prop :=
 ∀ (n_1 : Nat) (W : World),
 Loc w.heap.size
 [Blk.mk n_1 25 [Value.slice p n c, Value.slice q k d, Value.int IntKind.i64 now, Value.int IntKind.i64 budget] 2] w
 W →
 CallsS Try.prog 10 #[] W fun (e : Ending) (w' : World) =>
 ∃ (x : Bool),
 e = Ending.returned (Value.bool x) ∧
 KeptL [n_1] W w' ∧
 ∃ (p_1 : Option Addr),
 ∃ (n_2 : Nat),
 ∃ (c_1 : Nat),
 gimp (!!x) (w'.cell? (Addr.mk n_1 0 none) = some (Value.slice p_1 n_2 c_1)) ∧
 ∃ (p_2 : Option Addr),
 ∃ (n_3 : Nat),
 ∃ (c_2 : Nat),
 gimp (!!x) (w'.cell? (Addr.mk n_1 (0 + 1) none) = some (Value.slice p_2 n_3 c_2)) ∧
 bsp (!!x)
 (CallsS Try.prog 11 #[Value.slice p_1 n_2 c_1, Value.slice p_2 n_3 c_2] w'
 fun (e : Ending) (w'_1 : World) =>
 ∃ (x : Bool),
 e = Ending.returned (Value.bool x) ∧
 KeptL [n_1] w' w'_1 ∧
 bsp (false || !x)
 (CallsS Try.prog 10 #[] w'_1 fun (e : Ending) (w' : World) =>
 ∃ (x : Bool),
 e = Ending.returned (Value.bool x) ∧ KeptL [n_1] w'_1 w' ∧ R (Ending.returned (Value.bool x)) w')
 (∀ (W : World),
 Loc w.heap.size
 [Blk.mk n_1 25
 [Value.slice p n c, Value.slice q k d, Value.int IntKind.i64 now, Value.int IntKind.i64 budget]
 0]
 w'_1 W →
 ∃ (S : World → Prop),
 S W ∧
 ∃ (p_3 : Option Addr),
 ∃ (n_4 : Nat),
 ∃ (c_3 : Nat),
 (∀ (w' : World), S w' → w'.cell? (Addr.mk n_1 0 none) = some (Value.slice p_3 n_4 c_3)) ∧
 ∃ (p_4 : Option Addr),
 ∃ (n_5 : Nat),
 ∃ (c_4 : Nat),
 (∀ (w' : World),
 S w' → w'.cell? (Addr.mk n_1 (0 + 1) none) = some (Value.slice p_4 n_5 c_4)) ∧
 ∃ (x : Int),
 (∀ (w' : World),
 S w' → w'.cell? (Addr.mk n_1 (0 + 2) none) = some (Value.int IntKind.i64 x)) ∧
 ∃ (x_1 : Int),
 (∀ (w' : World),
 S w' → w'.cell? (Addr.mk n_1 (0 + 3) none) = some (Value.int IntKind.i64 x_1)) ∧
 CallsS Try.prog 12 #[Value.slice p_3 n_4 c_3] W fun (e : Ending) (w' : World) =>
 ∃ (p_5 : Option Addr),
 ∃ (n_6 : Nat),
 ∃ (c_5 : Nat),
 e = Ending.returned (Value.slice p_5 n_6 c_5) ∧
 S w' ∧
 CallsS Try.prog 13 #[Value.slice p_4 n_5 c_4] w'
 fun (e : Ending) (w' : World) =>
 ∃ (p_6 : Option Addr),
 ∃ (n_7 : Nat),
 ∃ (c_6 : Nat),
 e = Ending.returned (Value.slice p_6 n_7 c_6) ∧
 S w' ∧
 CallsS Try.prog 14
 #[Value.slice p_5 n_6 c_5, Value.slice p_6 n_7 c_6,
 Value.int IntKind.i64 x, Value.int IntKind.i64 x_1]
 w' fun (e : Ending) (w' : World) =>
 ∃ (p_7 : Option Addr),
 ∃ (n_8 : Nat),
 ∃ (c_7 : Nat),
 ∃ (x : Int),
 e =
 Ending.returned
 (Value.tuple
 #[Value.slice p_7 n_8 c_7, Value.int IntKind.i64 x]) ∧
 KeptL [n_1] W w' ∧
 CallsS Try.prog 23
 #[Value.slice p n c, Value.slice q k d,
 Value.int IntKind.i64 now, Value.int IntKind.i64 budget]
 w' fun (e : Ending) (w'_2 : World) =>
 ∃ (p_8 : Option Addr),
 ∃ (n_9 : Nat),
 ∃ (c_8 : Nat),
 ∃ (p_9 : Option Addr),
 ∃ (n_10 : Nat),
 ∃ (c_9 : Nat),
 ∃ (x_2 : Int),
 e =
 Ending.returned
 (Value.tuple
 #[Value.slice p_8 n_9 c_8, Value.slice p_9 n_10 c_9,
 Value.int IntKind.i64 x_2]) ∧
 KeptL [n_1] w' w'_2 ∧
 CallsS Try.prog 24
 #[Value.slice p_7 n_8 c_7, Value.slice p_8 n_9 c_8]
 w'_2 fun (e : Ending) (w' : World) =>
 ∃ (x_3 : Bool),
 e = Ending.returned (Value.bool x_3) ∧
 KeptL [n_1] w'_2 w' ∧
 bsp (!x_3 || x != x_2)
 (R (Ending.returned (Value.bool false)) w')
 (bsp (x != 0)
 (R (Ending.returned (Value.bool true)) w')
 (CallsS Try.prog 13 #[Value.slice q k d] w'
 fun (e : Ending) (w'_3 : World) =>
 ∃ (p_10 : Option Addr),
 ∃ (n_11 : Nat),
 ∃ (c_10 : Nat),
 e =
 Ending.returned
 (Value.slice p_10 n_11 c_10) ∧
 KeptL [n_1] w' w'_3 ∧
 CallsS Try.prog 25
 #[Value.slice p_10 n_11 c_10,
 Value.slice p_7 n_8 c_7]
 w'_3 fun (e : Ending) (w' : World) =>
 ∃ (p_11 : Option Addr),
 ∃ (n_12 : Nat),
 ∃ (c_11 : Nat),
 e =
 Ending.returned
 (Value.slice p_11 n_12 c_11) ∧
 KeptL [n_1] w'_3 w' ∧
 bsp ((↑n_12 : Int) != (↑n_10 : Int))
 (R
 (Ending.returned
 (Value.bool false))
 w')
 (∃ (I : List Value → World → Prop),
 ∃ (m : List Value → World → Nat),
 I [Value.int IntKind.i64 0] w' ∧
 ∀ (x : Int) (w' : World),
 I [Value.int IntKind.i64 x] w' →
 Loc w.heap.size
 [Blk.mk n_1 25
 [Value.slice p n c,
 Value.slice q k d,
 Value.int IntKind.i64 now,
 Value.int IntKind.i64
 budget]
 0]
 w' w' →
 bsp
 (decide (x < (↑n_12 : Int)))
 (nn true p_11
 fun (b o : Nat) =>
 (0 ≤ x ∧
 x < (↑n_12 : Int)) ∧
 ∃ (f : Nat → Int),
 (∀ (W : World),
 Loc w.heap.size
 [Blk.mk n_1 25
 [Value.slice p n c,
 Value.slice q k d,
 Value.int
 IntKind.i64 now,
 Value.int
 IntKind.i64
 budget]
 0]
 w' W →
 AtL W b
 (o + x.toNat * 39)
 (arrI IntKind.u8 f 32 0)) ∧
 nn true p_9
 fun (b o : Nat) =>
 (0 ≤ x ∧
 x < (↑n_10 : Int)) ∧
 ∃ (f_1 : Nat → Int),
 (∀ (W : World),
 Loc w.heap.size
 [Blk.mk n_1 25
 [Value.slice p n
 c,
 Value.slice q k
 d,
 Value.int
 IntKind.i64
 now,
 Value.int
 IntKind.i64
 budget]
 0]
 w' W →
 AtL W b
 (o + x.toNat * 39)
 (arrI IntKind.u8 f_1 32 0)) ∧
 ∃ (r : Bool),
 EqP Try.prog 38
 (Value.agg
 (arrI IntKind.u8 f 32 0).toArray)
 (Value.agg
 (arrI IntKind.u8 f_1 32 0).toArray)
 r ∧
 nn (!!r) p_11
 fun (b o : Nat) =>
 gimp (!!r)
 (0 ≤ x ∧
 x <
 (↑n_12 :
 Int)) ∧
 ∃ (x_4 : Int),
 gimp (!!r)
 (∀
 (W : World),
 Loc
 w.heap.size
 [Blk.mk n_1
 25
 [Value.slice
 p n c,
 Value.slice
 q k d,
 Value.int
 IntKind.i64
 now,
 Value.int
 IntKind.i64
 budget]
 0]
 w' W →
 W.cell?
 (Addr.mk b
 (o +
 x.toNat *
 39 +
 35)
 none) =
 some
 (Value.int
 IntKind.i64
 x_4)) ∧
 nn (!!r) p_9
 fun
 (b o :
 Nat) =>
 gimp (!!r)
 (0 ≤ x ∧
 x <
 (↑n_10 :
 Int)) ∧
 ∃ (x_5 :
 Int),
 gimp (!!r)
 (∀
 (W :
 World),
 Loc
 w.heap.size
 [Blk.mk
 n_1
 25
 [Value.slice
 p n
 c,
 Value.slice
 q k
 d,
 Value.int
 IntKind.i64
 now,
 Value.int
 IntKind.i64
 budget]
 0]
 w' W →
 W.cell?
 (Addr.mk
 b
 (o +
 x.toNat *
 39 +
 35)
 none) =
 some
 (Value.int
 IntKind.i64
 x_5)) ∧
 nn
 (!(!r ||
 x_4 !=
 x_5))
 p_11
 fun
 (b o :
 Nat) =>
 gimp
 (!(!r ||
 x_4 !=
 x_5))
 (0 ≤ x ∧
 x <
 (↑n_12 :
 Int)) ∧
 ∃ (p_12 :
 Option
 Addr),
 ∃ (n_13
 : Nat),
 ∃ (c_12
 :
 Nat),
 gimp
 (!(!r ||
 x_4 !=
 x_5))
 (∀
 (W :
 World),
 Loc
 w.heap.size
 [Blk.mk
 n_1
 25
 [Value.slice
 p
 n
 c,
 Value.slice
 q
 k
 d,
 Value.int
 IntKind.i64
 now,
 Value.int
 IntKind.i64
 budget]
 0]
 w'
 W →
 W.cell?
 (Addr.mk
 b
 (o +
 x.toNat *
 39 +
 37)
 none) =
 some
 (Value.slice
 p_12
 n_13
 c_12)) ∧
 nn
 (!(!r ||
 x_4 !=
 x_5))
 p_9
 fun
 (b
 o :
 Nat) =>
 gimp
 (!(!r ||
 x_4 !=
 x_5))
 (0 ≤
 x ∧
 x <
 (↑n_10 :
 Int)) ∧
 ∃
 (p_13
 :
 Option
 Addr),
 ∃
 (n_14
 :
 Nat),
 ∃
 (c_13
 :
 Nat),
 gimp
 (!(!r ||
 x_4 !=
 x_5))
 (∀
 (W :
 World),
 Loc
 w.heap.size
 [Blk.mk
 n_1
 25
 [Value.slice
 p
 n
 c,
 Value.slice
 q
 k
 d,
 Value.int
 IntKind.i64
 now,
 Value.int
 IntKind.i64
 budget]
 0]
 w'
 W →
 W.cell?
 (Addr.mk
 b
 (o +
 x.toNat *
 39 +
 37)
 none) =
 some
 (Value.slice
 p_13
 n_14
 c_13)) ∧
 bsp
 (!r ||
 x_4 !=
 x_5 ||
 (↑n_13 :
 Int) !=
 (↑n_14 :
 Int))
 (∀
 (W :
 World),
 Loc
 w.heap.size
 [Blk.mk
 n_1
 25
 [Value.slice
 p
 n
 c,
 Value.slice
 q
 k
 d,
 Value.int
 IntKind.i64
 now,
 Value.int
 IntKind.i64
 budget]
 0]
 w'
 W →
 R
 (Ending.returned
 (Value.bool
 false))
 W)
 (∀
 (W :
 World),
 Loc
 w.heap.size
 [Blk.mk
 n_1
 25
 [Value.slice
 p
 n
 c,
 Value.slice
 q
 k
 d,
 Value.int
 IntKind.i64
 now,
 Value.int
 IntKind.i64
 budget]
 0]
 w'
 W →
 I
 [Value.int
 IntKind.i64
 (IntKind.i64.wrap
 (x +
 1))]
 W ∧
 m
 [Value.int
 IntKind.i64
 (IntKind.i64.wrap
 (x +
 1))]
 W <
 m
 [Value.int
 IntKind.i64
 x]
 w'))
 (R
 (Ending.returned
 (Value.bool true))
 w'))))))
 (KeptL [n_1] w' w' ∧
 CallsS Try.prog 10 #[] w' fun (e : Ending) (w'_1 : World) =>
 ∃ (x : Bool),
 e = Ending.returned (Value.bool x) ∧ KeptL [n_1] w' w'_1 ∧ R (Ending.returned (Value.bool x)) w'_1)
theorem vc_lplan (p : Option Addr) (n : Nat) (c : Nat) (q : Option Addr) (k : Nat) (d : Nat) (now : Int) (budget : Int) (w : World) (R : Ending → World → Prop) (h : VC_lplan p n c q k d now budget w R) : Calls Try.prog 6 ([Value.agg
    #[Value.slice p n c, Value.slice q k d, Value.int IntKind.i64 now,
      Value.int IntKind.i64 budget]] : List Value).toArray w R := by
  have e : execR2 { P := Try.prog, loops := [(13, [(9, Ck.int IntKind.i64)])], pur := pur2, tails := [(3, 2)], joins := [], boxes := [] } Try.f6.results.toList R (Try.f6.body.getD .skip) (initF [Value.agg
    #[Value.slice p n c, Value.slice q k d, Value.int IntKind.i64 now,
      Value.int IntKind.i64
        budget]] (Try.f6.ntmps - ([Value.agg
    #[Value.slice p n c, Value.slice q k d, Value.int IntKind.i64 now,
      Value.int IntKind.i64 budget]] : List Value).length)) w = VC_lplan p n c q k d now budget w R := by kernel_rfl
  have hb : Try.f6.body = some (Try.f6.body.getD .skip) := by kernel_rfl
  exact calls_of_exec2' (P := Try.prog) (fn := Try.f6) (c := Try.f6.body.getD .skip) (args := [Value.agg
    #[Value.slice p n c, Value.slice q k d, Value.int IntKind.i64 now,
      Value.int IntKind.i64 budget]]) (w := w) (R := R) pur2_ok Try.func6 hb e h

def VC_lsafe (p : Option Addr) (n : Nat) (c : Nat) (q : Option Addr) (k : Nat) (d : Nat) (now : Int) (budget : Int) (w : World) (R : Ending → World → Prop) : Prop :=
 ∀ (n_1 : Nat) (W : World),
 Loc w.heap.size
 [Blk.mk n_1 25 [Value.slice p n c, Value.slice q k d, Value.int IntKind.i64 now, Value.int IntKind.i64 budget] 2] w
 W →
 CallsS Try.prog 10 #[] W fun (e : Ending) (w' : World) =>
 ∃ (x : Bool),
 e = Ending.returned (Value.bool x) ∧
 KeptL [n_1] W w' ∧
 ∃ (p_1 : Option Addr),
 ∃ (n_2 : Nat),
 ∃ (c_1 : Nat),
 gimp (!!x) (w'.cell? (Addr.mk n_1 0 none) = some (Value.slice p_1 n_2 c_1)) ∧
 ∃ (p_2 : Option Addr),
 ∃ (n_3 : Nat),
 ∃ (c_2 : Nat),
 gimp (!!x) (w'.cell? (Addr.mk n_1 (0 + 1) none) = some (Value.slice p_2 n_3 c_2)) ∧
 bsp (!!x)
 (CallsS Try.prog 11 #[Value.slice p_1 n_2 c_1, Value.slice p_2 n_3 c_2] w'
 fun (e : Ending) (w'_1 : World) =>
 ∃ (x : Bool),
 e = Ending.returned (Value.bool x) ∧
 KeptL [n_1] w' w'_1 ∧
 bsp (false || !x)
 (CallsS Try.prog 10 #[] w'_1 fun (e : Ending) (w' : World) =>
 ∃ (x : Bool),
 e = Ending.returned (Value.bool x) ∧ KeptL [n_1] w'_1 w' ∧ R (Ending.returned (Value.bool x)) w')
 (∀ (W : World),
 Loc w.heap.size
 [Blk.mk n_1 25
 [Value.slice p n c, Value.slice q k d, Value.int IntKind.i64 now, Value.int IntKind.i64 budget]
 0]
 w'_1 W →
 ∃ (S : World → Prop),
 S W ∧
 ∃ (p_3 : Option Addr),
 ∃ (n_4 : Nat),
 ∃ (c_3 : Nat),
 (∀ (w' : World), S w' → w'.cell? (Addr.mk n_1 0 none) = some (Value.slice p_3 n_4 c_3)) ∧
 ∃ (p_4 : Option Addr),
 ∃ (n_5 : Nat),
 ∃ (c_4 : Nat),
 (∀ (w' : World),
 S w' → w'.cell? (Addr.mk n_1 (0 + 1) none) = some (Value.slice p_4 n_5 c_4)) ∧
 CallsS Try.prog 12 #[Value.slice p_3 n_4 c_3] W fun (e : Ending) (w' : World) =>
 ∃ (p_5 : Option Addr),
 ∃ (n_6 : Nat),
 ∃ (c_5 : Nat),
 e = Ending.returned (Value.slice p_5 n_6 c_5) ∧
 S w' ∧
 CallsS Try.prog 13 #[Value.slice p_4 n_5 c_4] w' fun (e : Ending) (w' : World) =>
 ∃ (p_6 : Option Addr),
 ∃ (n_7 : Nat),
 ∃ (c_6 : Nat),
 e = Ending.returned (Value.slice p_6 n_7 c_6) ∧
 KeptL [n_1] W w' ∧
 CallsS Try.prog 14
 #[Value.slice p_5 n_6 c_5, Value.slice p_6 n_7 c_6,
 Value.int IntKind.i64 now, Value.int IntKind.i64 budget]
 w' fun (e : Ending) (w'_2 : World) =>
 ∃ (p_7 : Option Addr),
 ∃ (n_8 : Nat),
 ∃ (c_7 : Nat),
 ∃ (x : Int),
 e =
 Ending.returned
 (Value.tuple #[Value.slice p_7 n_8 c_7, Value.int IntKind.i64 x]) ∧
 KeptL [n_1] w' w'_2 ∧
 bsp (x != 0)
 (R (Ending.returned (Value.bool ((↑n_8 : Int) == 0))) w'_2)
 (CallsS Try.prog 25
 #[Value.slice p_6 n_7 c_6, Value.slice p_7 n_8 c_7] w'_2
 fun (e : Ending) (w' : World) =>
 ∃ (p_8 : Option Addr),
 ∃ (n_9 : Nat),
 ∃ (c_8 : Nat),
 e = Ending.returned (Value.slice p_8 n_9 c_8) ∧
 KeptL [n_1] w'_2 w' ∧
 bsp
 (IntKind.i64.wrap ((↑n_9 : Int) + (↑n_8 : Int)) !=
 (↑n_7 : Int))
 (R (Ending.returned (Value.bool false)) w')
 (∃ (I : List Value → World → Prop),
 ∃ (m : List Value → World → Nat),
 I [Value.int IntKind.i64 0] w' ∧
 ∀ (x : Int) (w' : World),
 I [Value.int IntKind.i64 x] w' →
 Loc w.heap.size
 [Blk.mk n_1 25
 [Value.slice p n c, Value.slice q k d,
 Value.int IntKind.i64 now,
 Value.int IntKind.i64 budget]
 0]
 w' w' →
 bsp (decide (x < (↑n_7 : Int)))
 (nn true p_6 fun (b o : Nat) =>
 (0 ≤ x ∧ x < (↑n_7 : Int)) ∧
 ∃ (f : Nat → Int),
 ∃ (x_1 : Int),
 ∃ (x_2 : Int),
 ∃ (p_9 : Option Addr),
 ∃ (n_10 : Nat),
 ∃ (c_9 : Nat),
 ∃ (x_3 : Int),
 ∃ (x_4 : Int),
 ∃ (p_10 : Option Addr),
 ∃ (n_11 : Nat),
 ∃ (c_10 : Nat),
 ∃ (x_5 : Bool),
 AtL w' b (o + x.toNat * 39)
 (arrI IntKind.u8 f 32 0 ++ [Value.int IntKind.i64 x_1,
 Value.int IntKind.i64 x_2,
 Value.slice p_9 n_10 c_9,
 Value.int IntKind.i64 x_3,
 Value.int IntKind.i64 x_4,
 Value.slice p_10 n_11 c_10,
 Value.bool x_5]) ∧
 ∀ (n_12 : Nat) (W : World),
 Loc w.heap.size
 [Blk.mk n_1 25
 [Value.slice p n c,
 Value.slice q k d,
 Value.int IntKind.i64 now,
 Value.int IntKind.i64 budget]
 0,
 Blk.mk n_12 42
 (arrI IntKind.u8 f 32 0 ++ [Value.int IntKind.i64 x_1,
 Value.int IntKind.i64 x_2,
 Value.slice p_9 n_10 c_9,
 Value.int IntKind.i64 x_3,
 Value.int IntKind.i64 x_4,
 Value.slice p_10 n_11 c_10,
 Value.bool x_5])
 (wrM 2)]
 w' W →
 CallsS Try.prog 26
 #[Value.slice p_8 n_9 c_8,
 Value.agg
 (arrI IntKind.u8 f 32 0).toArray]
 W fun (e : Ending) (w'_3 : World) =>
 ∃ (x_6 : Bool),
 e =
 Ending.returned
 (Value.bool x_6) ∧
 KeptL [n_1, n_12] W w'_3 ∧
 bsp x_6
 (I
 [Value.int IntKind.i64
 (IntKind.i64.wrap (x + 1))]
 w'_3 ∧
 m
 [Value.int IntKind.i64
 (IntKind.i64.wrap (x + 1))]
 w'_3 <
 m [Value.int IntKind.i64 x]
 w')
 (∀ (W : World),
 Loc w.heap.size
 [Blk.mk n_1 25
 [Value.slice p n c,
 Value.slice q k d,
 Value.int IntKind.i64 now,
 Value.int IntKind.i64
 budget]
 0,
 Blk.mk n_12 42
 (arrI IntKind.u8 f 32 0 ++ [Value.int IntKind.i64 x_1,
 Value.int IntKind.i64 x_2,
 Value.slice p_9 n_10 c_9,
 Value.int IntKind.i64 x_3,
 Value.int IntKind.i64 x_4,
 Value.slice p_10 n_11
 c_10,
 Value.bool x_5])
 0]
 w'_3 W →
 ∃ (S : World → Prop),
 S W ∧
 ∃ (x_7 : Int),
 (∀ (w' : World),
 S w' →
 w'.cell?
 (Addr.mk n_12 (0 + 36)
 none) =
 some
 (Value.int IntKind.i64
 x_7)) ∧
 ∃ (x_8 : Bool),
 gimp (!decide (x_7 ≥ 3))
 (∀ (w' : World),
 S w' →
 w'.cell?
 (Addr.mk n_12
 (0 + 38) none) =
 some
 (Value.bool x_8)) ∧
 ∃ (x_9 : Int),
 gimp
 (!decide (x_7 ≥ 3) &&
 !x_8)
 (∀ (w' : World),
 S w' →
 w'.cell?
 (Addr.mk n_1
 (0 + 2) none) =
 some
 (Value.int
 IntKind.i64
 x_9)) ∧
 ∃ (x_10 : Int),
 gimp
 (!decide
 (x_7 ≥ 3) &&
 !x_8)
 (∀ (w' : World),
 S w' →
 w'.cell?
 (Addr.mk n_12
 (0 + 33)
 none) =
 some
 (Value.int
 IntKind.i64
 x_10)) ∧
 ∃ (f_1 : Nat → Int),
 ∃ (x_11 : Int),
 ∃ (x_12 : Int),
 ∃ (p_11 :
 Option Addr),
 ∃ (n_13 : Nat),
 ∃ (c_11 : Nat),
 ∃ (x_13 :
 Int),
 ∃ (x_14 :
 Int),
 ∃ (p_12 :
 Option
 Addr),
 ∃ (n_14 :
 Nat),
 ∃ (c_12 :
 Nat),
 ∃ (x_15 :
 Bool),
 gimp
 (!decide
 (x_7 ≥
 3) &&
 !x_8)
 (∀
 (w' :
 World),
 S
 w' →
 AtL
 w'
 n_12
 0
 (arrI IntKind.u8 f_1 32 0 ++ [Value.int
 IntKind.i64
 x_11,
 Value.int
 IntKind.i64
 x_12,
 Value.slice
 p_11
 n_13
 c_11,
 Value.int
 IntKind.i64
 x_13,
 Value.int
 IntKind.i64
 x_14,
 Value.slice
 p_12
 n_14
 c_12,
 Value.bool
 x_15])) ∧
 bsp
 (!decide
 (x_7 ≥
 3))
 (bsp
 (!x_8)
 (CallsS
 Try.prog
 21
 #[Value.slice
 p_5
 n_6
 c_5,
 Value.agg
 (arrI IntKind.u8 f_1 32 0 ++ [Value.int
 IntKind.i64
 x_11,
 Value.int
 IntKind.i64
 x_12,
 Value.slice
 p_11
 n_13
 c_11,
 Value.int
 IntKind.i64
 x_13,
 Value.int
 IntKind.i64
 x_14,
 Value.slice
 p_12
 n_14
 c_12,
 Value.bool
 x_15]).toArray]
 W
 fun
 (e :
 Ending)
 (w'_4 :
 World) =>
 ∃
 (x_16
 :
 Int),
 e =
 Ending.returned
 (Value.int
 IntKind.i64
 x_16) ∧
 S
 w'_4 ∧
 KeptL
 [n_1,
 n_12]
 W
 w'_4 ∧
 bsp
 (false ||
 true &&
 decide
 (x_9 <
 IntKind.i64.wrap
 (x_10 +
 IntKind.i64.wrap
 (x_16 *
 1440))))
 (R
 (Ending.returned
 (Value.bool
 false))
 w'_4)
 (∃
 (I_1
 :
 List
 Value →
 World →
 Prop),
 ∃
 (m_1
 :
 List
 Value →
 World →
 Nat),
 I_1
 [Value.int
 IntKind.i64
 0]
 w'_4 ∧
 ∀
 (x_17 :
 Int)
 (w'_5 :
 World),
 I_1
 [Value.int
 IntKind.i64
 x_17]
 w'_5 →
 Loc
 w.heap.size
 [Blk.mk
 n_1
 25
 [Value.slice
 p
 n
 c,
 Value.slice
 q
 k
 d,
 Value.int
 IntKind.i64
 now,
 Value.int
 IntKind.i64
 budget]
 0,
 Blk.mk
 n_12
 42
 (arrI IntKind.u8 f 32 0 ++ [Value.int
 IntKind.i64
 x_1,
 Value.int
 IntKind.i64
 x_2,
 Value.slice
 p_9
 n_10
 c_9,
 Value.int
 IntKind.i64
 x_3,
 Value.int
 IntKind.i64
 x_4,
 Value.slice
 p_10
 n_11
 c_10,
 Value.bool
 x_5])
 0]
 w'_5
 w'_5 →
 bsp
 (decide
 (x_17 <
 (↑n_11 :
 Int)))
 (nn
 true
 p_10
 fun
 (b
 o :
 Nat) =>
 (0 ≤
 x_17 ∧
 x_17 <
 (↑n_11 :
 Int)) ∧
 ∃
 (f
 :
 Nat →
 Int),
 AtL
 w'_5
 b
 (o +
 x_17.toNat *
 32)
 (arrI IntKind.u8 f 32 0) ∧
 CallsS
 Try.prog
 26
 #[Value.slice
 p_8
 n_9
 c_8,
 Value.agg
 (arrI IntKind.u8 f 32 0).toArray]
 w'_5
 fun
 (e :
 Ending)
 (w' :
 World) =>
 ∃
 (x
 :
 Bool),
 e =
 Ending.returned
 (Value.bool
 x) ∧
 KeptL
 [n_1,
 n_12]
 w'_5
 w' ∧
 bsp
 x
 (R
 (Ending.returned
 (Value.bool
 false))
 w')
 (I_1
 [Value.int
 IntKind.i64
 (IntKind.i64.wrap
 (x_17 +
 1))]
 w' ∧
 m_1
 [Value.int
 IntKind.i64
 (IntKind.i64.wrap
 (x_17 +
 1))]
 w' <
 m_1
 [Value.int
 IntKind.i64
 x_17]
 w'_5))
 (I
 [Value.int
 IntKind.i64
 (IntKind.i64.wrap
 (x +
 1))]
 w'_5 ∧
 m
 [Value.int
 IntKind.i64
 (IntKind.i64.wrap
 (x +
 1))]
 w'_5 <
 m
 [Value.int
 IntKind.i64
 x]
 w')))
 (S
 W ∧
 KeptL
 [n_1,
 n_12]
 W
 W ∧
 ∃
 (I_1
 :
 List
 Value →
 World →
 Prop),
 ∃
 (m_1
 :
 List
 Value →
 World →
 Nat),
 I_1
 [Value.int
 IntKind.i64
 0]
 W ∧
 ∀
 (x_16 :
 Int)
 (w'_4 :
 World),
 I_1
 [Value.int
 IntKind.i64
 x_16]
 w'_4 →
 Loc
 w.heap.size
 [Blk.mk
 n_1
 25
 [Value.slice
 p
 n
 c,
 Value.slice
 q
 k
 d,
 Value.int
 IntKind.i64
 now,
 Value.int
 IntKind.i64
 budget]
 0,
 Blk.mk
 n_12
 42
 (arrI IntKind.u8 f 32 0 ++ [Value.int
 IntKind.i64
 x_1,
 Value.int
 IntKind.i64
 x_2,
 Value.slice
 p_9
 n_10
 c_9,
 Value.int
 IntKind.i64
 x_3,
 Value.int
 IntKind.i64
 x_4,
 Value.slice
 p_10
 n_11
 c_10,
 Value.bool
 x_5])
 0]
 w'_4
 w'_4 →
 bsp
 (decide
 (x_16 <
 (↑n_11 :
 Int)))
 (nn
 true
 p_10
 fun
 (b
 o :
 Nat) =>
 (0 ≤
 x_16 ∧
 x_16 <
 (↑n_11 :
 Int)) ∧
 ∃
 (f
 :
 Nat →
 Int),
 AtL
 w'_4
 b
 (o +
 x_16.toNat *
 32)
 (arrI IntKind.u8 f 32 0) ∧
 CallsS
 Try.prog
 26
 #[Value.slice
 p_8
 n_9
 c_8,
 Value.agg
 (arrI IntKind.u8 f 32 0).toArray]
 w'_4
 fun
 (e :
 Ending)
 (w' :
 World) =>
 ∃
 (x
 :
 Bool),
 e =
 Ending.returned
 (Value.bool
 x) ∧
 KeptL
 [n_1,
 n_12]
 w'_4
 w' ∧
 bsp
 x
 (R
 (Ending.returned
 (Value.bool
 false))
 w')
 (I_1
 [Value.int
 IntKind.i64
 (IntKind.i64.wrap
 (x_16 +
 1))]
 w' ∧
 m_1
 [Value.int
 IntKind.i64
 (IntKind.i64.wrap
 (x_16 +
 1))]
 w' <
 m_1
 [Value.int
 IntKind.i64
 x_16]
 w'_4))
 (I
 [Value.int
 IntKind.i64
 (IntKind.i64.wrap
 (x +
 1))]
 w'_4 ∧
 m
 [Value.int
 IntKind.i64
 (IntKind.i64.wrap
 (x +
 1))]
 w'_4 <
 m
 [Value.int
 IntKind.i64
 x]
 w')))
 (S W ∧
 KeptL
 [n_1,
 n_12]
 W
 W ∧
 R
 (Ending.returned
 (Value.bool
 false))
 W)))
 (R (Ending.returned (Value.bool true)) w')))))
 (KeptL [n_1] w' w' ∧
 CallsS Try.prog 10 #[] w' fun (e : Ending) (w'_1 : World) =>
 ∃ (x : Bool),
 e = Ending.returned (Value.bool x) ∧ KeptL [n_1] w' w'_1 ∧ R (Ending.returned (Value.bool x)) w'_1)
theorem vc_lsafe (p : Option Addr) (n : Nat) (c : Nat) (q : Option Addr) (k : Nat) (d : Nat) (now : Int) (budget : Int) (w : World) (R : Ending → World → Prop) (h : VC_lsafe p n c q k d now budget w R) : Calls Try.prog 7 ([Value.agg
    #[Value.slice p n c, Value.slice q k d, Value.int IntKind.i64 now,
      Value.int IntKind.i64 budget]] : List Value).toArray w R := by
  have e : execR2 { P := Try.prog, loops := [(11, [(8, Ck.int IntKind.i64)]), (18, [(10, Ck.int IntKind.i64)])], pur := pur2, tails := [(3, 2), (15, 14)], joins := [], boxes := [] } Try.f7.results.toList R (Try.f7.body.getD .skip) (initF [Value.agg
    #[Value.slice p n c, Value.slice q k d, Value.int IntKind.i64 now,
      Value.int IntKind.i64
        budget]] (Try.f7.ntmps - ([Value.agg
    #[Value.slice p n c, Value.slice q k d, Value.int IntKind.i64 now,
      Value.int IntKind.i64 budget]] : List Value).length)) w = VC_lsafe p n c q k d now budget w R := by kernel_rfl
  have hb : Try.f7.body = some (Try.f7.body.getD .skip) := by kernel_rfl
  exact calls_of_exec2' (P := Try.prog) (fn := Try.f7) (c := Try.f7.body.getD .skip) (args := [Value.agg
    #[Value.slice p n c, Value.slice q k d, Value.int IntKind.i64 now,
      Value.int IntKind.i64 budget]]) (w := w) (R := R) pur2_ok Try.func7 hb e h

def VC_lcompl (p : Option Addr) (n : Nat) (c : Nat) (q : Option Addr) (k : Nat) (d : Nat) (now : Int) (budget : Int) (w : World) (R : Ending → World → Prop) : Prop :=
 ∀ (n_1 : Nat) (W : World),
 Loc w.heap.size
 [Blk.mk n_1 25 [Value.slice p n c, Value.slice q k d, Value.int IntKind.i64 now, Value.int IntKind.i64 budget] 2] w
 W →
 CallsS Try.prog 10 #[] W fun (e : Ending) (w' : World) =>
 ∃ (x : Bool),
 e = Ending.returned (Value.bool x) ∧
 KeptL [n_1] W w' ∧
 ∃ (p_1 : Option Addr),
 ∃ (n_2 : Nat),
 ∃ (c_1 : Nat),
 gimp (!!x) (w'.cell? (Addr.mk n_1 0 none) = some (Value.slice p_1 n_2 c_1)) ∧
 ∃ (p_2 : Option Addr),
 ∃ (n_3 : Nat),
 ∃ (c_2 : Nat),
 gimp (!!x) (w'.cell? (Addr.mk n_1 (0 + 1) none) = some (Value.slice p_2 n_3 c_2)) ∧
 bsp (!!x)
 (CallsS Try.prog 11 #[Value.slice p_1 n_2 c_1, Value.slice p_2 n_3 c_2] w'
 fun (e : Ending) (w'_1 : World) =>
 ∃ (x : Bool),
 e = Ending.returned (Value.bool x) ∧
 KeptL [n_1] w' w'_1 ∧
 bsp (false || !x)
 (CallsS Try.prog 10 #[] w'_1 fun (e : Ending) (w' : World) =>
 ∃ (x : Bool),
 e = Ending.returned (Value.bool x) ∧ KeptL [n_1] w'_1 w' ∧ R (Ending.returned (Value.bool x)) w')
 (∀ (W : World),
 Loc w.heap.size
 [Blk.mk n_1 25
 [Value.slice p n c, Value.slice q k d, Value.int IntKind.i64 now, Value.int IntKind.i64 budget]
 0]
 w'_1 W →
 ∃ (S : World → Prop),
 S W ∧
 ∃ (p_3 : Option Addr),
 ∃ (n_4 : Nat),
 ∃ (c_3 : Nat),
 (∀ (w' : World), S w' → w'.cell? (Addr.mk n_1 0 none) = some (Value.slice p_3 n_4 c_3)) ∧
 ∃ (p_4 : Option Addr),
 ∃ (n_5 : Nat),
 ∃ (c_4 : Nat),
 (∀ (w' : World),
 S w' → w'.cell? (Addr.mk n_1 (0 + 1) none) = some (Value.slice p_4 n_5 c_4)) ∧
 CallsS Try.prog 12 #[Value.slice p_3 n_4 c_3] W fun (e : Ending) (w' : World) =>
 ∃ (p_5 : Option Addr),
 ∃ (n_6 : Nat),
 ∃ (c_5 : Nat),
 e = Ending.returned (Value.slice p_5 n_6 c_5) ∧
 S w' ∧
 CallsS Try.prog 13 #[Value.slice p_4 n_5 c_4] w' fun (e : Ending) (w' : World) =>
 ∃ (p_6 : Option Addr),
 ∃ (n_7 : Nat),
 ∃ (c_6 : Nat),
 e = Ending.returned (Value.slice p_6 n_7 c_6) ∧
 KeptL [n_1] W w' ∧
 CallsS Try.prog 14
 #[Value.slice p_5 n_6 c_5, Value.slice p_6 n_7 c_6,
 Value.int IntKind.i64 now, Value.int IntKind.i64 budget]
 w' fun (e : Ending) (w'_2 : World) =>
 ∃ (p_7 : Option Addr),
 ∃ (n_8 : Nat),
 ∃ (c_7 : Nat),
 ∃ (x : Int),
 e =
 Ending.returned
 (Value.tuple #[Value.slice p_7 n_8 c_7, Value.int IntKind.i64 x]) ∧
 KeptL [n_1] w' w'_2 ∧
 bsp (x != 0) (R (Ending.returned (Value.bool true)) w'_2)
 (CallsS Try.prog 23
 #[Value.slice p n c, Value.slice q k d, Value.int IntKind.i64 now,
 Value.int IntKind.i64 budget]
 w'_2 fun (e : Ending) (w' : World) =>
 ∃ (p_8 : Option Addr),
 ∃ (n_9 : Nat),
 ∃ (c_8 : Nat),
 ∃ (p_9 : Option Addr),
 ∃ (n_10 : Nat),
 ∃ (c_9 : Nat),
 ∃ (x : Int),
 e =
 Ending.returned
 (Value.tuple
 #[Value.slice p_8 n_9 c_8, Value.slice p_9 n_10 c_9,
 Value.int IntKind.i64 x]) ∧
 KeptL [n_1] w'_2 w' ∧
 CallsS Try.prog 25
 #[Value.slice p_6 n_7 c_6, Value.slice p_7 n_8 c_7] w'
 fun (e : Ending) (w'_3 : World) =>
 ∃ (p_10 : Option Addr),
 ∃ (n_11 : Nat),
 ∃ (c_10 : Nat),
 e = Ending.returned (Value.slice p_10 n_11 c_10) ∧
 KeptL [n_1] w' w'_3 ∧
 ∃ (I : List Value → World → Prop),
 ∃ (m : List Value → World → Nat),
 I
 [Value.int IntKind.i64 0,
 Value.int IntKind.i64 0]
 w'_3 ∧
 ∀ (x x_1 : Int) (w' : World),
 I
 [Value.int IntKind.i64 x,
 Value.int IntKind.i64 x_1]
 w' →
 Loc w.heap.size
 [Blk.mk n_1 25
 [Value.slice p n c, Value.slice q k d,
 Value.int IntKind.i64 now,
 Value.int IntKind.i64 budget]
 0]
 w' w' →
 bsp (decide (x < (↑n_11 : Int)))
 (nn true p_10 fun (b o : Nat) =>
 (0 ≤ x ∧ x < (↑n_11 : Int)) ∧
 ∃ (x_2 : Int),
 w'.cell?
 (Addr.mk b (o + x.toNat * 39 + 35)
 none) =
 some (Value.int IntKind.i64 x_2) ∧
 I
 [Value.int IntKind.i64
 (IntKind.i64.wrap (x + 1)),
 Value.int IntKind.i64
 (IntKind.i64.wrap (x_1 + x_2))]
 w' ∧
 m
 [Value.int IntKind.i64
 (IntKind.i64.wrap (x + 1)),
 Value.int IntKind.i64
 (IntKind.i64.wrap (x_1 + x_2))]
 w' <
 m
 [Value.int IntKind.i64 x,
 Value.int IntKind.i64 x_1]
 w')
 (bsp ((↑n_11 : Int) != (↑n_10 : Int))
 (R (Ending.returned (Value.bool false)) w')
 (∃ (I : List Value → World → Prop),
 ∃ (m : List Value → World → Nat),
 I [Value.int IntKind.i64 0] w' ∧
 ∀ (x : Int) (w' : World),
 I [Value.int IntKind.i64 x] w' →
 Loc w.heap.size
 [Blk.mk n_1 25
 [Value.slice p n c,
 Value.slice q k d,
 Value.int IntKind.i64 now,
 Value.int IntKind.i64 budget]
 0]
 w' w' →
 bsp (decide (x < (↑n_11 : Int)))
 (nn true p_9 fun (b o : Nat) =>
 (0 ≤ x ∧ x < (↑n_10 : Int)) ∧
 ∃ (f : Nat → Int),
 ∃ (x_2 : Int),
 ∃ (x_3 : Int),
 ∃ (p_11 : Option Addr),
 ∃ (n_12 : Nat),
 ∃ (c_11 : Nat),
 ∃ (x_4 : Int),
 ∃ (x_5 : Int),
 ∃ (p_12 : Option Addr),
 ∃ (n_13 : Nat),
 ∃ (c_12 : Nat),
 ∃ (x_6 : Bool),
 (∀ (W : World),
 Loc w.heap.size
 [Blk.mk n_1 25
 [Value.slice p n
 c,
 Value.slice q k
 d,
 Value.int
 IntKind.i64
 now,
 Value.int
 IntKind.i64
 budget]
 0]
 w' W →
 AtL W b
 (o + x.toNat * 39)
 (arrI IntKind.u8 f 32 0 ++ [Value.int
 IntKind.i64 x_2,
 Value.int
 IntKind.i64 x_3,
 Value.slice p_11
 n_12 c_11,
 Value.int
 IntKind.i64 x_4,
 Value.int
 IntKind.i64 x_5,
 Value.slice p_12
 n_13 c_12,
 Value.bool x_6])) ∧
 ∀ (W : World),
 Loc w.heap.size
 [Blk.mk n_1 25
 [Value.slice p n
 c,
 Value.slice q k
 d,
 Value.int
 IntKind.i64
 now,
 Value.int
 IntKind.i64
 budget]
 0]
 w' W →
 CallsS Try.prog 27
 #[Value.slice p_9
 n_10 c_9,
 Value.agg
 (arrI IntKind.u8 f 32 0 ++ [Value.int
 IntKind.i64
 x_2,
 Value.int
 IntKind.i64
 x_3,
 Value.slice p_11
 n_12 c_11,
 Value.int
 IntKind.i64
 x_4,
 Value.int
 IntKind.i64
 x_5,
 Value.slice p_12
 n_13 c_12,
 Value.bool x_6]).toArray,
 Value.int
 IntKind.i64 now]
 W
 fun (e : Ending)
 (w'_4 : World) =>
 ∃ (x_7 : Bool),
 e =
 Ending.returned
 (Value.bool
 x_7) ∧
 KeptL [n_1] W
 w'_4 ∧
 bsp x_7
 (I
 [Value.int
 IntKind.i64
 (IntKind.i64.wrap
 (x + 1))]
 w'_4 ∧
 m
 [Value.int
 IntKind.i64
 (IntKind.i64.wrap
 (x + 1))]
 w'_4 <
 m
 [Value.int
 IntKind.i64
 x]
 w')
 (∀ (W : World),
 Loc
 w.heap.size
 [Blk.mk n_1
 25
 [Value.slice
 p n c,
 Value.slice
 q k d,
 Value.int
 IntKind.i64
 now,
 Value.int
 IntKind.i64
 budget]
 0]
 w'_4 W →
 ∃ (S :
 World →
 Prop),
 S W ∧
 nn true
 p_10
 fun
 (b o :
 Nat) =>
 (0 ≤ x ∧
 x <
 (↑n_11 :
 Int)) ∧
 ∃ (f :
 Nat →
 Int),
 ∃ (x_8 :
 Int),
 ∃ (x_9
 :
 Int),
 ∃
 (p_13
 :
 Option
 Addr),
 ∃
 (n_14
 :
 Nat),
 ∃
 (c_13
 :
 Nat),
 ∃
 (x_10
 :
 Int),
 ∃
 (x_11
 :
 Int),
 ∃
 (p_14
 :
 Option
 Addr),
 ∃
 (n_15
 :
 Nat),
 ∃
 (c_14
 :
 Nat),
 ∃
 (x_12
 :
 Bool),
 (∀
 (w' :
 World),
 S
 w' →
 AtL
 w'
 b
 (o +
 x.toNat *
 39)
 (arrI IntKind.u8 f 32 0 ++ [Value.int
 IntKind.i64
 x_8,
 Value.int
 IntKind.i64
 x_9,
 Value.slice
 p_13
 n_14
 c_13,
 Value.int
 IntKind.i64
 x_10,
 Value.int
 IntKind.i64
 x_11,
 Value.slice
 p_14
 n_15
 c_14,
 Value.bool
 x_12])) ∧
 nn
 true
 p_10
 fun
 (b
 o :
 Nat) =>
 (0 ≤
 x ∧
 x <
 (↑n_11 :
 Int)) ∧
 ∃
 (f_1
 :
 Nat →
 Int),
 ∃
 (x_13
 :
 Int),
 ∃
 (x_14
 :
 Int),
 ∃
 (p_15
 :
 Option
 Addr),
 ∃
 (n_16
 :
 Nat),
 ∃
 (c_15
 :
 Nat),
 ∃
 (x_15
 :
 Int),
 ∃
 (x_16
 :
 Int),
 ∃
 (p_16
 :
 Option
 Addr),
 ∃
 (n_17
 :
 Nat),
 ∃
 (c_16
 :
 Nat),
 ∃
 (x_17
 :
 Bool),
 (∀
 (w' :
 World),
 S
 w' →
 AtL
 w'
 b
 (o +
 x.toNat *
 39)
 (arrI IntKind.u8 f_1 32 0 ++ [Value.int
 IntKind.i64
 x_13,
 Value.int
 IntKind.i64
 x_14,
 Value.slice
 p_15
 n_16
 c_15,
 Value.int
 IntKind.i64
 x_15,
 Value.int
 IntKind.i64
 x_16,
 Value.slice
 p_16
 n_17
 c_16,
 Value.bool
 x_17])) ∧
 CallsS
 Try.prog
 21
 #[Value.slice
 p_5
 n_6
 c_5,
 Value.agg
 (arrI IntKind.u8 f 32 0 ++ [Value.int
 IntKind.i64
 x_8,
 Value.int
 IntKind.i64
 x_9,
 Value.slice
 p_13
 n_14
 c_13,
 Value.int
 IntKind.i64
 x_10,
 Value.int
 IntKind.i64
 x_11,
 Value.slice
 p_14
 n_15
 c_14,
 Value.bool
 x_12]).toArray]
 W
 fun
 (e :
 Ending)
 (w'_5 :
 World) =>
 ∃
 (x_18
 :
 Int),
 e =
 Ending.returned
 (Value.int
 IntKind.i64
 x_18) ∧
 S
 w'_5 ∧
 CallsS
 Try.prog
 22
 #[Value.slice
 p_5
 n_6
 c_5,
 Value.agg
 (arrI IntKind.u8 f_1 32 0 ++ [Value.int
 IntKind.i64
 x_13,
 Value.int
 IntKind.i64
 x_14,
 Value.slice
 p_15
 n_16
 c_15,
 Value.int
 IntKind.i64
 x_15,
 Value.int
 IntKind.i64
 x_16,
 Value.slice
 p_16
 n_17
 c_16,
 Value.bool
 x_17]).toArray]
 w'_5
 fun
 (e :
 Ending)
 (w'_6 :
 World) =>
 ∃
 (x_19
 :
 Int),
 e =
 Ending.returned
 (Value.int
 IntKind.i64
 x_19) ∧
 KeptL
 [n_1]
 W
 w'_6 ∧
 nn
 true
 p_10
 fun
 (b
 o :
 Nat) =>
 (0 ≤
 x ∧
 x <
 (↑n_11 :
 Int)) ∧
 ∃
 (x_20
 :
 Bool),
 (∀
 (W :
 World),
 Loc
 w.heap.size
 [Blk.mk
 n_1
 25
 [Value.slice
 p
 n
 c,
 Value.slice
 q
 k
 d,
 Value.int
 IntKind.i64
 now,
 Value.int
 IntKind.i64
 budget]
 0]
 w'_6
 W →
 W.cell?
 (Addr.mk
 b
 (o +
 x.toNat *
 39 +
 38)
 none) =
 some
 (Value.bool
 x_20)) ∧
 nn
 x_20
 p_10
 fun
 (b
 o :
 Nat) =>
 gimp
 x_20
 (0 ≤
 x ∧
 x <
 (↑n_11 :
 Int)) ∧
 ∃
 (x_21
 :
 Int),
 gimp
 x_20
 (∀
 (W :
 World),
 Loc
 w.heap.size
 [Blk.mk
 n_1
 25
 [Value.slice
 p
 n
 c,
 Value.slice
 q
 k
 d,
 Value.int
 IntKind.i64
 now,
 Value.int
 IntKind.i64
 budget]
 0]
 w'_6
 W →
 W.cell?
 (Addr.mk
 b
 (o +
 x.toNat *
 39 +
 36)
 none) =
 some
 (Value.int
 IntKind.i64
 x_21)) ∧
 ∃
 (x_22
 :
 Int),
 gimp
 (!(x_20 &&
 x_21 ==
 0))
 (∀
 (W :
 World),
 Loc
 w.heap.size
 [Blk.mk
 n_1
 25
 [Value.slice
 p
 n
 c,
 Value.slice
 q
 k
 d,
 Value.int
 IntKind.i64
 now,
 Value.int
 IntKind.i64
 budget]
 0]
 w'_6
 W →
 W.cell?
 (Addr.mk
 n_1
 (0 +
 2)
 none) =
 some
 (Value.int
 IntKind.i64
 x_22)) ∧
 nn
 (!(x_20 &&
 x_21 ==
 0))
 p_10
 fun
 (b
 o :
 Nat) =>
 gimp
 (!(x_20 &&
 x_21 ==
 0))
 (0 ≤
 x ∧
 x <
 (↑n_11 :
 Int)) ∧
 ∃
 (x_23
 :
 Int),
 gimp
 (!(x_20 &&
 x_21 ==
 0))
 (∀
 (W :
 World),
 Loc
 w.heap.size
 [Blk.mk
 n_1
 25
 [Value.slice
 p
 n
 c,
 Value.slice
 q
 k
 d,
 Value.int
 IntKind.i64
 now,
 Value.int
 IntKind.i64
 budget]
 0]
 w'_6
 W →
 W.cell?
 (Addr.mk
 b
 (o +
 x.toNat *
 39 +
 33)
 none) =
 some
 (Value.int
 IntKind.i64
 x_23)) ∧
 ∃
 (x_24
 :
 Int),
 gimp
 (!(x_20 &&
 x_21 ==
 0 ||
 decide
 (x_22 ≥
 IntKind.i64.wrap
 (x_23 +
 IntKind.i64.wrap
 (x_19 *
 1440)))))
 (∀
 (W :
 World),
 Loc
 w.heap.size
 [Blk.mk
 n_1
 25
 [Value.slice
 p
 n
 c,
 Value.slice
 q
 k
 d,
 Value.int
 IntKind.i64
 now,
 Value.int
 IntKind.i64
 budget]
 0]
 w'_6
 W →
 W.cell?
 (Addr.mk
 n_1
 (0 +
 3)
 none) =
 some
 (Value.int
 IntKind.i64
 x_24)) ∧
 ∃
 (x_25
 :
 Int),
 gimp
 (!(x_20 &&
 x_21 ==
 0 ||
 decide
 (x_22 ≥
 IntKind.i64.wrap
 (x_23 +
 IntKind.i64.wrap
 (x_19 *
 1440)))) &&
 decide
 (x_1 >
 x_24))
 (∀
 (W :
 World),
 Loc
 w.heap.size
 [Blk.mk
 n_1
 25
 [Value.slice
 p
 n
 c,
 Value.slice
 q
 k
 d,
 Value.int
 IntKind.i64
 now,
 Value.int
 IntKind.i64
 budget]
 0]
 w'_6
 W →
 W.cell?
 (Addr.mk
 n_1
 (0 +
 2)
 none) =
 some
 (Value.int
 IntKind.i64
 x_25)) ∧
 nn
 (!(x_20 &&
 x_21 ==
 0 ||
 decide
 (x_22 ≥
 IntKind.i64.wrap
 (x_23 +
 IntKind.i64.wrap
 (x_19 *
 1440)))) &&
 decide
 (x_1 >
 x_24))
 p_10
 fun
 (b
 o :
 Nat) =>
 gimp
 (!(x_20 &&
 x_21 ==
 0 ||
 decide
 (x_22 ≥
 IntKind.i64.wrap
 (x_23 +
 IntKind.i64.wrap
 (x_19 *
 1440)))) &&
 decide
 (x_1 >
 x_24))
 (0 ≤
 x ∧
 x <
 (↑n_11 :
 Int)) ∧
 ∃
 (x_26
 :
 Int),
 gimp
 (!(x_20 &&
 x_21 ==
 0 ||
 decide
 (x_22 ≥
 IntKind.i64.wrap
 (x_23 +
 IntKind.i64.wrap
 (x_19 *
 1440)))) &&
 decide
 (x_1 >
 x_24))
 (∀
 (W :
 World),
 Loc
 w.heap.size
 [Blk.mk
 n_1
 25
 [Value.slice
 p
 n
 c,
 Value.slice
 q
 k
 d,
 Value.int
 IntKind.i64
 now,
 Value.int
 IntKind.i64
 budget]
 0]
 w'_6
 W →
 W.cell?
 (Addr.mk
 b
 (o +
 x.toNat *
 39 +
 33)
 none) =
 some
 (Value.int
 IntKind.i64
 x_26)) ∧
 bsp
 (x_20 &&
 x_21 ==
 0 ||
 decide
 (x_22 ≥
 IntKind.i64.wrap
 (x_23 +
 IntKind.i64.wrap
 (x_19 *
 1440))) ||
 decide
 (x_1 >
 x_24) &&
 decide
 (x_25 ≥
 IntKind.i64.wrap
 (x_26 +
 IntKind.i64.wrap
 (x_18 *
 1440))))
 (∀
 (W :
 World),
 Loc
 w.heap.size
 [Blk.mk
 n_1
 25
 [Value.slice
 p
 n
 c,
 Value.slice
 q
 k
 d,
 Value.int
 IntKind.i64
 now,
 Value.int
 IntKind.i64
 budget]
 0]
 w'_6
 W →
 R
 (Ending.returned
 (Value.bool
 false))
 W)
 (∀
 (W :
 World),
 Loc
 w.heap.size
 [Blk.mk
 n_1
 25
 [Value.slice
 p
 n
 c,
 Value.slice
 q
 k
 d,
 Value.int
 IntKind.i64
 now,
 Value.int
 IntKind.i64
 budget]
 0]
 w'_6
 W →
 I
 [Value.int
 IntKind.i64
 (IntKind.i64.wrap
 (x +
 1))]
 W ∧
 m
 [Value.int
 IntKind.i64
 (IntKind.i64.wrap
 (x +
 1))]
 W <
 m
 [Value.int
 IntKind.i64
 x]
 w')))
 (R
 (Ending.returned (Value.bool true))
 w'))))))
 (KeptL [n_1] w' w' ∧
 CallsS Try.prog 10 #[] w' fun (e : Ending) (w'_1 : World) =>
 ∃ (x : Bool),
 e = Ending.returned (Value.bool x) ∧ KeptL [n_1] w' w'_1 ∧ R (Ending.returned (Value.bool x)) w'_1)
theorem vc_lcompl (p : Option Addr) (n : Nat) (c : Nat) (q : Option Addr) (k : Nat) (d : Nat) (now : Int) (budget : Int) (w : World) (R : Ending → World → Prop) (h : VC_lcompl p n c q k d now budget w R) : Calls Try.prog 8 ([Value.agg
    #[Value.slice p n c, Value.slice q k d, Value.int IntKind.i64 now,
      Value.int IntKind.i64 budget]] : List Value).toArray w R := by
  have e : execR2 { P := Try.prog, loops := [(11, [(12, Ck.int IntKind.i64), (11, Ck.int IntKind.i64)]), (17, [(13, Ck.int IntKind.i64)])], pur := pur2, tails := [(3, 2), (19, 7), (20, 5)], joins := [], boxes := [] } Try.f8.results.toList R (Try.f8.body.getD .skip) (initF [Value.agg
    #[Value.slice p n c, Value.slice q k d, Value.int IntKind.i64 now,
      Value.int IntKind.i64
        budget]] (Try.f8.ntmps - ([Value.agg
    #[Value.slice p n c, Value.slice q k d, Value.int IntKind.i64 now,
      Value.int IntKind.i64 budget]] : List Value).length)) w = VC_lcompl p n c q k d now budget w R := by kernel_rfl
  have hb : Try.f8.body = some (Try.f8.body.getD .skip) := by kernel_rfl
  exact calls_of_exec2' (P := Try.prog) (fn := Try.f8) (c := Try.f8.body.getD .skip) (args := [Value.agg
    #[Value.slice p n c, Value.slice q k d, Value.int IntKind.i64 now,
      Value.int IntKind.i64 budget]]) (w := w) (R := R) pur2_ok Try.func8 hb e h

end Go.Proofs.Ytmjanmffnblcoaa

/- Chapter 42: the statements ExpiryPlan and ExpiryAgain return true, on worlds. -/
namespace Go.Proofs.Ytmjanmffnblcoaa
open Go.RowKit Go.Sort Go.Maps

theorem core_gs {x y : AX} (e : y.core = x.core) : y.gs = x.gs := by have := congrArg AX.gs e; exact this
theorem core_hs {x y : AX} (e : y.core = x.core) : y.hs = x.hs := by have := congrArg AX.hs e; exact this
theorem core_id {x y : AX} (e : y.core = x.core) : y.id = x.id := by have := congrArg AX.id e; exact this
theorem ArSz.core {x y : AX} (h : ArSz x) (e : y.core = x.core) : ArSz y := by
  have e1 := core_gs e
  have e2 := core_hs e
  have e3 := core_id e
  exact ⟨by rw [e1]; exact h.gl, by rw [e1]; exact h.gz, by rw [e2]; exact h.hl, by rw [e3]; exact h.id, by rw [e2]; exact h.hs⟩
theorem core_pls {l l' : List AX} (h : l'.map AX.core = l.map AX.core) : l'.map AX.pl = l.map AX.pl := by
  have := congrArg (List.map AX.pl) h
  rw [List.map_map, List.map_map] at this
  exact this
theorem core_len {l l' : List AX} (h : l'.map AX.core = l.map AX.core) : l'.length = l.length := by simpa using congrArg List.length h
theorem core_mem {l l' : List AX} (h : l'.map AX.core = l.map AX.core) {y : AX} (hy : y ∈ l') : ∃ x ∈ l, y.core = x.core := by
  have : y.core ∈ l'.map AX.core := List.mem_map.2 ⟨y, hy, rfl⟩
  rw [h] at this
  obtain ⟨x, hx, e⟩ := List.mem_map.1 this
  exact ⟨x, hx, e.symm⟩
theorem core_sz {l l' : List AX} (h : l'.map AX.core = l.map AX.core) (hs : ∀ x ∈ l, ArSz x) : ∀ y ∈ l', ArSz y := fun y hy => by
  obtain ⟨x, hx, e⟩ := core_mem h hy
  exact (hs x hx).core e
/-- What a small case tells. -/
structure Sml (L : List Rl) (l : List AX) : Prop where
  nL : L.length ≤ 10
  nl : l.length ≤ 12
  sz : ∀ x ∈ l, ArSz x
  gh : ∀ x ∈ l, x.gs.length ≤ 5 ∧ x.hs.length ≤ 5
  z : ∀ x ∈ l, ∀ z ∈ x.gs, z.size ≤ 60
theorem Sml.of {L : List Rl} {l : List AX} (h : smallB L l = true) (hr : ∀ x ∈ l, ArRd x) : Sml L l := by
  obtain ⟨_, h2, h3, h4⟩ := smallB_sz h
  exact ⟨h3, h4, fun x hx => (hr x hx).sz (h2 x hx), fun x hx => ⟨(smA_sz (h2 x hx)).1, (smA_sz (h2 x hx)).2.1⟩, fun x hx => (smA_sz (h2 x hx)).2.2⟩
theorem Sml.core {L : List Rl} {l l' : List AX} (h : Sml L l) (e : l'.map AX.core = l.map AX.core) : Sml L l' := by
  have key : ∀ y ∈ l', ∃ x ∈ l, y.gs = x.gs ∧ y.hs = x.hs := fun y hy => by
    obtain ⟨x, hx, e⟩ := core_mem e hy
    exact ⟨x, hx, core_gs e, core_hs e⟩
  refine ⟨h.nL, by rw [core_len e]; exact h.nl, core_sz e h.sz, fun y hy => ?_, fun y hy => ?_⟩
  · obtain ⟨x, hx, e1, e2⟩ := key y hy
    rw [e1, e2]; exact h.gh x hx
  · obtain ⟨x, hx, e1, _⟩ := key y hy
    rw [e1]; exact h.z x hx
theorem Sml.sub {L : List Rl} {l l' : List AX} (h : Sml L l) (hs : l'.Sublist l) : Sml L l' :=
  ⟨h.nL, Nat.le_trans hs.length_le h.nl, fun x hx => h.sz x (hs.subset hx), fun x hx => h.gh x (hs.subset hx), fun x hx => h.z x (hs.subset hx)⟩
theorem keep_pl {l : List AX} {R : List ((Nat → Int) × Nat)} {W : List (List Int × Nat)} (h : R.map whyS = W) : (l.filter (keepB R)).map AX.pl = (l.map AX.pl).filter (fun a => !decide (a.id ∈ W.map (·.1))) := by
  subst h
  rw [List.filter_map, List.map_map]
  congr 1
theorem ars_of {L : List Rl} {l : List AX} {now budget : Int} (h : planErr L (l.map AX.pl) now budget = 0) (hs : ∀ x ∈ l, ArSz x) : ArsOK (l.map AX.pl) :=
  ⟨(planErr_parts h).2.2.2.2, fun a ha => by
    obtain ⟨x, hx, rfl⟩ := List.mem_map.1 ha
    exact idI_bd (hs x hx).id⟩
set_option maxRecDepth 100000 in
set_option maxHeartbeats 2000000 in
theorem lplan_any (L : List Rl) (p : Option Addr) (c : Nat) (l : List AX) (q : Option Addr) (d : Nat) (now budget : Int) (w : World) (hR : RowA rlC 3 w p L) (hL : L.length ≤ 4611686018427387904) (hA : RowA axC 39 w q l) (hX : ∀ x ∈ l, AXR w x ∧ ArRd x) (hld : l.length ≤ d) (hl : l.length ≤ 4611686018427387904) :
    Calls Try.prog 6 #[.agg #[.slice p L.length c, .slice q l.length d, .int .i64 now, .int .i64 budget]] w fun e w' => e = .returned (.bool true) ∧ K0 w w' := by
  refine vc_lplan p L.length c q l.length d now budget w _ ?_
  intro n1 W hW
  have kW : K0 w W := hW.kk rfl
  refine ⟨(known_any W).mono fun e w1 ⟨he, k1⟩ => ⟨_, he, .of_k0 k1, ?_⟩⟩
  have hb1 := k1.blk (hW.cells 0 rfl) (fun h => h)
  have kw1 : K0 w w1 := kW.trans k1
  refine ⟨p, L.length, c, gimp_intro fun _ => cell_at hb1 rfl, q, l.length, d, gimp_intro fun _ => cell_at hb1 rfl, bsp_intro (fun _ => ?_) (fun h => absurd h (by decide))⟩
  refine ⟨(lsmall_any L p c l q d w1 (hR.k0 kw1) (hA.k0 kw1) (fun x hx => ((hX x hx).1.k0 kw1).gs) hL hl).mono fun e w2 ⟨he, k2⟩ => ⟨_, he, .of_k0 k2, ?_⟩⟩
  have kw2 : K0 w w2 := kw1.trans k2
  refine bsp_intro (fun _ => ⟨(known_any w2).mono fun e w4 ⟨he, k4⟩ => ⟨_, he, .of_k0 k4, rfl, kw2.trans k4⟩⟩) (fun hs W3 hW3 => ?_)
  have sm := Sml.of (L := L) (l := l) (by simpa using hs) (fun x hx => (hX x hx).2)
  have hsL := sm.nL
  have hsl := sm.nl
  have k3 : K0 w2 W3 := hW3.kk rfl
  have kw3 : K0 w W3 := kw2.trans k3
  have hb3 := hW3.cells 0 rfl
  refine ⟨fun wx => K0 W3 wx, .refl _ _, p, L.length, c, fun wx kx => cell_at (kx.blk hb3 (fun h => h)) rfl, q, l.length, d, fun wx kx => cell_at (kx.blk hb3 (fun h => h)) rfl, now, fun wx kx => cell_at (kx.blk hb3 (fun h => h)) rfl, budget, fun wx kx => cell_at (kx.blk hb3 (fun h => h)) rfl, ?_⟩
  refine ⟨(lrules_any L p c W3 (hR.k0 kw3) (by omega)).mono fun e w4 ⟨p4, c4, he, ho4, k4⟩ => ⟨_, _, _, he, k4, ?_⟩⟩
  have kw4 := kw3.trans k4
  refine ⟨(larticles_any l q d w4 (hA.k0 kw4) (fun x hx => (hX x hx).1.k0 kw4) (fun x hx => by have := (sm.gh x hx).2; omega) (by omega)).mono fun e w5 ⟨l5, p5, c5, he, hcore, ho5, hO, k5⟩ => ⟨_, _, _, he, k4.trans k5, ?_⟩⟩
  have kw5 := kw4.trans k5
  have sm5 := sm.core hcore
  have hs5 := sm5.nl
  have hpl := core_pls hcore
  refine ⟨(eplan_any L p4 c4 l5 p5 c5 now budget w5 ((RowA.own ho4 rlC_length (by decide)).k0 k5) (RowA.own ho5 axC_length (by decide)) (fun x hx => (hO x hx).r k5) sm5.sz (by omega)).mono fun e w6 ⟨k6, he⟩ => ?_⟩
  have kw6 := kw5.trans k6
  have hx := xplan_any L p c l q d now budget
  rw [hpl] at he
  rcases he with ⟨h0, he⟩ | ⟨h0, R, p6, c6, he, ho6, hplan, hRb⟩
  · -- an error
    refine ⟨_, _, _, _, he, .of_k0 ((k4.trans k5).trans k6), ?_⟩
    refine ⟨(hx w6 (hR.k0 kw6) (hA.k0 kw6) (fun x hx => (hX x hx).1.k0 kw6) sm.sz (fun x hx z hz => by have := sm.z x hx z hz; omega) (by omega) hld).mono fun e w7 ⟨k7, he⟩ => ?_⟩
    rcases he with ⟨_, he⟩ | ⟨h0', _⟩
    · refine ⟨_, _, _, _, _, _, _, he, .of_k0 k7, ?_⟩
      refine ⟨(lsame_any [] [] none 0 none 0 w7 RowA.nil RowA.nil rfl (fun r hr => by cases hr) (fun r hr => by cases hr) (by simp)).mono fun e w8 ⟨he, k8⟩ => ⟨_, he, .of_k0 k8, bsp_intro (fun h => by exfalso; simp at h) (fun _ => bsp_intro (fun _ => ⟨rfl, (kw6.trans k7).trans k8⟩) (fun h => by exfalso; simp at h; exact h0 h))⟩⟩
    · exact absurd h0' h0
  refine ⟨_, _, _, _, he, .of_k0 ((k4.trans k5).trans k6), ?_⟩
  refine ⟨(hx w6 (hR.k0 kw6) (hA.k0 kw6) (fun x hx => (hX x hx).1.k0 kw6) sm.sz (fun x hx z hz => by have := sm.z x hx z hz; omega) (by omega) hld).mono fun e w7 ⟨k7, he⟩ => ?_⟩
  rcases he with ⟨h0', _⟩ | ⟨_, R2, T2, p7, c7, p8, c8, he, ho7, ho8, hplan2, hT2, hR2b, hT2m⟩
  · exact absurd h0 h0'
  have kw7 := kw6.trans k7
  refine ⟨_, _, _, _, _, _, _, he, .of_k0 k7, ?_⟩
  have hlen5 := core_len hcore
  rw [hlen5] at hplan
  have hRR : R.map whyS = R2.map whyS := hplan.trans hplan2.symm
  have hrow6 : RowA whyC 33 w7 p6 R := (RowA.own ho6 whyC_length (by decide)).k0 k7
  have ars := ars_of h0 sm.sz
  obtain ⟨hst1, hst2⟩ := refp_stays (l := L) (now := now) (budget := budget) l.length (l.map AX.pl) ars
  have hRl : R.length ≤ 12 := by
    have h1 := congrArg List.length hplan
    rw [List.length_map] at h1
    rw [List.length_map] at hst2
    omega
  refine ⟨(lsame_any R R2 p6 c6 p7 c7 w7 hrow6 (RowA.own ho7 whyC_length (by decide)) hRR hRb hR2b (by omega)).mono fun e w8 ⟨he, k8⟩ => ⟨_, he, .of_k0 k8, bsp_intro (fun h => by exfalso; simp at h) (fun _ => bsp_intro (fun h => by exfalso; simp at h) (fun _ => ?_))⟩⟩
  have kw8 := kw7.trans k8
  refine ⟨(larticles_any l q d w8 (hA.k0 kw8) (fun x hx => (hX x hx).1.k0 kw8) (fun x hx => by have := (sm.gh x hx).2; omega) (by omega)).mono fun e w9 ⟨l9, p9, c9, he, hcore9, ho9, hO9, k9⟩ => ⟨_, _, _, he, .of_k0 k9, ?_⟩⟩
  have kw9 := kw8.trans k9
  have sm9 := sm.core hcore9
  have hs9 := sm9.nl
  refine ⟨(eafter_any l9 p9 c9 R p6 c6 w9 (RowA.own ho9 axC_length (by decide)) (fun x hx => (hO9 x hx).r k9) (hrow6.k0 (k8.trans k9)) (by omega) (by omega) (fun x hx => (sm9.sz x hx).id) hRb (fun x hx => by have := sm9.gh x hx; omega)).mono fun e w10 ⟨T, p10, c10, he, hTc, ho10, hT, k10⟩ => ⟨_, _, _, he, .of_k0 k10, ?_⟩⟩
  have kw10 := kw9.trans k10
  have hTpl : T.map AX.pl = T2.map AX.pl := by
    rw [core_pls hTc, keep_pl hplan, hT2, hst1, core_pls hcore9]
  have hTlen : T.length = T2.length := by simpa using congrArg List.length hTpl
  refine bsp_intro (fun h => by exfalso; simp [hTlen] at h) (fun _ => ?_)
  have hrT : RowA axC 39 w10 p10 T := RowA.own ho10 axC_length (by decide)
  have hrT2 : RowA axC 39 w10 p8 T2 := (RowA.own ho8 axC_length (by decide)).k0 ((k8.trans k9).trans k10)
  have hT12 : T.length ≤ 12 := by
    have h1 := congrArg List.length hTc
    rw [List.length_map, List.length_map] at h1
    have h2 := List.length_filter_le (keepB R) l9
    omega
  refine count1 T.length (by omega) (fun k wx => K0 w10 wx) (.refl _ _) ?_
  intro I m i w11 hi k11 next hL11
  refine bsp_intro (fun hlt => ?_) (fun _ => ⟨rfl, kw10.trans k11⟩)
  have hlt : i < T.length := by simp at hlt; omega
  obtain ⟨x, b, o, hx, hp, hat⟩ := (hrT.k0 k11).get hlt
  obtain ⟨y, b', o', hy, hp', hat'⟩ := (hrT2.k0 k11).get (k := i) (by omega)
  have hxy : x.pl = y.pl := by
    have h1 : (T.map AX.pl)[i]? = some x.pl := by rw [List.getElem?_map, hx]; rfl
    rw [hTpl, List.getElem?_map, hy] at h1
    simpa using h1.symm
  have hid : idI x.id = idI y.id := congrArg Ar.id hxy
  have hby : x.by_ = y.by_ := congrArg Ar.by_ hxy
  have hhl : x.hs.length = y.hs.length := by
    have := congrArg (fun a => a.holds.length) hxy
    simpa [AX.pl] using this
  have hxb : ∀ j, 0 ≤ x.id j ∧ x.id j ≤ 255 := by
    obtain ⟨z, hz, e⟩ := core_mem hTc (List.mem_of_getElem? hx)
    have e3 := core_id e
    rw [e3]
    exact (sm9.sz z (List.mem_filter.1 hz).1).id
  have hyb := (sm.sz y (hT2m y (List.mem_of_getElem? hy))).id
  have hE := idEq4 (idI_len x.id) (idI_bd hxb) (idI_len y.id) (idI_bd hyb)
  rw [show decide (idI x.id = idI y.id) = true by simp [hid]] at hE
  refine nn_eq hp ⟨by omega, x.id, fun W hW => by rw [Int.toNat_natCast]; exact (hat.k0 (hW.kk rfl)).pre, nn_eq hp' ⟨by omega, y.id, fun W hW => by rw [Int.toNat_natCast]; exact (hat'.k0 (hW.kk rfl)).pre, true, hE, ?_⟩⟩
  refine nn_eq hp ⟨gimp_intro fun _ => by omega, x.by_, gimp_intro fun _ W hW => by rw [Int.toNat_natCast]; exact (hat.k0 (hW.kk rfl)).cell (j := 35) rfl, nn_eq hp' ⟨gimp_intro fun _ => by omega, y.by_, gimp_intro fun _ W hW => by rw [Int.toNat_natCast]; exact (hat'.k0 (hW.kk rfl)).cell (j := 35) rfl, ?_⟩⟩
  refine nn_eq hp ⟨gimp_intro fun _ => by omega, x.hp, x.hs.length, x.hc, gimp_intro fun _ W hW => by rw [Int.toNat_natCast]; exact (hat.k0 (hW.kk rfl)).cell (j := 37) rfl, nn_eq hp' ⟨gimp_intro fun _ => by omega, y.hp, y.hs.length, y.hc, gimp_intro fun _ W hW => by rw [Int.toNat_natCast]; exact (hat'.k0 (hW.kk rfl)).cell (j := 37) rfl, ?_⟩⟩
  rw [hby, hhl]
  exact bsp_intro (fun h => by exfalso; simp at h) (fun _ W hW => next hlt W (k11.trans (hW.kk rfl)))
set_option maxRecDepth 100000 in
set_option maxHeartbeats 2000000 in
theorem lagain_any (L : List Rl) (p : Option Addr) (c : Nat) (l : List AX) (q : Option Addr) (d : Nat) (now budget : Int) (w : World) (hR : RowA rlC 3 w p L) (hL : L.length ≤ 4611686018427387904) (hA : RowA axC 39 w q l) (hX : ∀ x ∈ l, AXR w x ∧ ArRd x) (hl : l.length ≤ 4611686018427387904) :
    Calls Try.prog 9 #[.agg #[.slice p L.length c, .slice q l.length d, .int .i64 now, .int .i64 budget]] w fun e w' => e = .returned (.bool true) ∧ K0 w w' := by
  refine vc_lagain p L.length c q l.length d now budget w _ ?_
  intro n1 W hW
  have kW : K0 w W := hW.kk rfl
  refine ⟨(known_any W).mono fun e w1 ⟨he, k1⟩ => ⟨_, he, .of_k0 k1, ?_⟩⟩
  have hb1 := k1.blk (hW.cells 0 rfl) (fun h => h)
  have kw1 : K0 w w1 := kW.trans k1
  refine ⟨p, L.length, c, gimp_intro fun _ => cell_at hb1 rfl, q, l.length, d, gimp_intro fun _ => cell_at hb1 rfl, bsp_intro (fun _ => ?_) (fun h => absurd h (by decide))⟩
  refine ⟨(lsmall_any L p c l q d w1 (hR.k0 kw1) (hA.k0 kw1) (fun x hx => ((hX x hx).1.k0 kw1).gs) hL hl).mono fun e w2 ⟨he, k2⟩ => ⟨_, he, .of_k0 k2, ?_⟩⟩
  have kw2 : K0 w w2 := kw1.trans k2
  refine bsp_intro (fun _ => ⟨(known_any w2).mono fun e w4 ⟨he, k4⟩ => ⟨_, he, .of_k0 k4, rfl, kw2.trans k4⟩⟩) (fun hs W3 hW3 => ?_)
  have sm := Sml.of (L := L) (l := l) (by simpa using hs) (fun x hx => (hX x hx).2)
  have hsL := sm.nL
  have hsl := sm.nl
  have k3 : K0 w2 W3 := hW3.kk rfl
  have kw3 : K0 w W3 := kw2.trans k3
  have hb3 := hW3.cells 0 rfl
  refine ⟨fun wx => K0 W3 wx, .refl _ _, p, L.length, c, fun wx kx => cell_at (kx.blk hb3 (fun h => h)) rfl, q, l.length, d, fun wx kx => cell_at (kx.blk hb3 (fun h => h)) rfl, ?_⟩
  refine ⟨(lrules_any L p c W3 (hR.k0 kw3) (by omega)).mono fun e w4 ⟨p4, c4, he, ho4, k4⟩ => ⟨_, _, _, he, k4, ?_⟩⟩
  have kw4 := kw3.trans k4
  refine ⟨(larticles_any l q d w4 (hA.k0 kw4) (fun x hx => (hX x hx).1.k0 kw4) (fun x hx => by have := (sm.gh x hx).2; omega) (by omega)).mono fun e w5 ⟨l5, p5, c5, he, hcore, ho5, hO, k5⟩ => ⟨_, _, _, he, .of_k0 (k4.trans k5), ?_⟩⟩
  have kw5 := kw4.trans k5
  have sm5 := sm.core hcore
  have hs5 := sm5.nl
  have hR4 : RowA rlC 3 w4 p4 L := RowA.own ho4 rlC_length (by decide)
  have hA5 : RowA axC 39 w5 p5 l5 := RowA.own ho5 axC_length (by decide)
  have hX5 : ∀ x ∈ l5, AXR w5 x := fun x hx => (hO x hx).r k5
  refine ⟨(eplan_any L p4 c4 l5 p5 c5 now budget w5 (hR4.k0 k5) hA5 hX5 sm5.sz (by omega)).mono fun e w6 ⟨k6, he⟩ => ?_⟩
  have kw6 := kw5.trans k6
  have hb6 := ((k4.trans k5).trans k6).blk hb3 (fun h => h)
  rcases he with ⟨h0, he⟩ | ⟨h0, R, p6, c6, he, ho6, hplan, hRb⟩
  · exact ⟨_, _, _, _, he, .of_k0 k6, bsp_intro (fun _ => ⟨rfl, kw6⟩) (fun h => by exfalso; simp at h; exact h0 h)⟩
  refine ⟨_, _, _, _, he, .of_k0 k6, bsp_intro (fun h => by exfalso; simp at h) (fun _ W7 hW7 => ?_)⟩
  have k7 : K0 w6 W7 := hW7.kk rfl
  have kw7 := kw6.trans k7
  have hb7 := hW7.cells 0 rfl
  have ars := ars_of h0 sm5.sz
  obtain ⟨hst1, hst2⟩ := refp_stays (l := L) (now := now) (budget := budget) l5.length (l5.map AX.pl) ars
  have hRl : R.length ≤ 12 := by
    have h1 := congrArg List.length hplan
    rw [List.length_map] at h1
    rw [List.length_map] at hst2
    omega
  refine ⟨fun wx => K0 W7 wx, .refl _ _, now, fun wx kx => cell_at (kx.blk hb7 (fun h => h)) rfl, budget, fun wx kx => cell_at (kx.blk hb7 (fun h => h)) rfl, ?_⟩
  have k57 : K0 w5 W7 := k6.trans k7
  refine ⟨(eafter_any l5 p5 c5 R p6 c6 W7 (hA5.k0 k57) (fun x hx => (hX5 x hx).k0 k57) ((RowA.own ho6 whyC_length (by decide)).k0 k7) (by omega) (by omega) (fun x hx => (sm5.sz x hx).id) hRb (fun x hx => by have := sm5.gh x hx; omega)).mono fun e w8 ⟨T, p8, c8, he, hTc, ho8, hT, k8⟩ => ⟨_, _, _, he, k8, ?_⟩⟩
  have kw8 := kw7.trans k8
  have smT := (sm5.sub (List.filter_sublist (p := keepB R))).core hTc
  have hsT := smT.nl
  have hTpl : T.map AX.pl = (refP L now budget l5.length (l5.map AX.pl)).2 := by rw [core_pls hTc, keep_pl hplan, hst1]
  have hend := refp_end (l := L) (now := now) (budget := budget) l5.length (l5.map AX.pl) ars (by simp)
  have hzero : planErr L (T.map AX.pl) now budget = 0 := by
    rw [hTpl, hst1]
    exact planErr_sub h0 List.filter_sublist
  refine ⟨(eplan_any L p4 c4 T p8 c8 now budget w8 (hR4.k0 (((k5.trans k57).trans k8))) (RowA.own ho8 axC_length (by decide)) (fun x hx => (hT x hx).r) smT.sz (by omega)).mono fun e w9 ⟨k9, he⟩ => ?_⟩
  rcases he with ⟨h1, _⟩ | ⟨_, R9, p9, c9, he, _, hplan9, _⟩
  · exact absurd hzero h1
  have hnil : R9 = [] := by
    rw [hTpl] at hplan9
    have : (refP L now budget T.length (refP L now budget l5.length (l5.map AX.pl)).2).1 = [] := by
      cases T.length with
      | zero => rfl
      | succ n => simp only [refP, hend]
    rw [this] at hplan9
    simpa using hplan9
  subst hnil
  exact ⟨_, _, _, _, he, .of_k0 (k8.trans k9), rfl, kw8.trans k9⟩

end Go.Proofs.Ytmjanmffnblcoaa
