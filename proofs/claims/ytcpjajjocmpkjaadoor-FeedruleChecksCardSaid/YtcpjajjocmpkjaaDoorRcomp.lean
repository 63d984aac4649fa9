/- The contract of the reference's Compile: it agrees with the program's. No condition. -/
import Derived.Test.YtcpjajjocmpkjaaDoorRcls
import Derived.Test.YtcpjajjocmpkjaaDoorVcRefB
namespace Go.Proofs.YtcpjajjocmpkjaaDoor
open Go.RowKit

/-- The cells of elements of the reference. -/
def rows (rs : List RE) : List Value := rs.flatMap fun r => reL r.star r.set
theorem rows_length : ∀ rs : List RE, (rows rs).length = rs.length * 129
  | [] => rfl
  | r :: rs => by
    have := rows_length rs
    unfold rows at this ⊢
    rw [List.flatMap_cons, List.length_append, reL_length, this, List.length_cons]
    omega
theorem rows_snoc (rs : List RE) (r : RE) : rows (rs ++ [r]) = rows rs ++ reL r.star r.set := by simp [rows]
/-- A pattern that is being made. -/
def RSt (w : World) (n : Nat) (s : ByteArray) (rs : List RE) : Prop :=
  ∃ (p : Option Addr) (c : Nat), w.heap[n]? = some (.cells #[.string s, .slice p rs.length c] 120 (0, 0)) ∧ w.ownsRow (n + 1) 150 129 (.slice p rs.length c) rs.length (rows rs)
theorem RSt.kp {w w' : World} {n : Nat} {s : ByteArray} {rs : List RE} (h : RSt w n s rs) (hk : K0 w w') : RSt w' n s rs := by
  obtain ⟨p, c, h1, h2⟩ := h
  exact ⟨p, c, hk.blk h1 (fun h => h), owns_kp h2 hk (fun _ _ h => h)⟩
def PB (w : World) (n : Nat) : Prop := ∃ v u, w.heap[n]? = some (.cells #[v, u] 120 (0, 0))
theorem PB.kp {M : Nat → Prop} {w w' : World} {n : Nat} (h : PB w n) (hk : Kp M w w') (hm : ¬ M n) : PB w' n := by
  obtain ⟨v, u, h⟩ := h; exact ⟨v, u, hk.blk h hm⟩
theorem PB.wr {w : World} {n : Nat} (h : PB w n) : WrL w n 0 2 := by obtain ⟨v, u, h⟩ := h; exact WrL_block h (by simp)
theorem PB.put {w w1 : World} {n : Nat} (h : PB w n) {v u : Value} (hp : PutB w n 0 [v, u] w1) : w1.heap[n]? = some (.cells #[v, u] 120 (0, 0)) := by
  obtain ⟨v', u', h⟩ := h; exact hp.full h rfl
theorem SetB.star {w w1 : World} {n : Nat} {b : Bool} {f : Nat → Bool} (h : SetB w n b f) {v : Bool} (hp : PutB w n 0 [.bool v] w1) : SetB w1 n v f := by
  have := hp.block h
  unfold SetB
  rw [this]
  congr 2
theorem reL_one (b : Bool) (f : Nat → Bool) : ∀ u ∈ reL b f, u.oneCell' = true := by
  intro u hu
  unfold reL at hu
  rcases List.mem_append.1 hu with h | h
  · simp at h; subst h; rfl
  · obtain ⟨j, hj, e⟩ := List.getElem_of_mem h
    have hj' : j < 128 := by rw [arrBo_length] at hj; exact hj
    have := arrBo_get f 128 0 j hj'
    rw [List.getElem?_eq_getElem hj] at this
    simp at this
    rw [← e, this]; rfl
theorem extract1 {s : ByteArray} {k : Nat} (h : k < s.size) : s.extract k (k + 1) = b1 (at8 s k) := by
  have hsz : (s.extract k (k + 1)).size = 1 := by rw [ByteArray.size_extract]; omega
  have hb := at8_byte (s := s.extract k (k + 1)) (k := 0) (by omega)
  rw [at8_extract s k (k + 1) 0 (by omega) (by omega)] at hb
  have hl : (s.extract k (k + 1)).data.toList.length = 1 := by rw [Array.length_toList]; exact hsz
  have : (s.extract k (k + 1)).data.toList = [(at8 s k).toNat.toUInt8] := by
    match hm : (s.extract k (k + 1)).data.toList, hl with
    | [a], _ => rw [hm] at hb; simp at hb; rw [hb]
  unfold b1
  cases hx : s.extract k (k + 1) with
  | mk d =>
    rw [hx] at this
    congr 1
    apply Array.toList_inj.1
    simpa using this
theorem rel_star : RelE .star ⟨true, fun _ => false⟩ := ⟨rfl, (fun h => by cases h), fun c h0 h1 h => by rw [← name_char c h0 h1]; exact h⟩
theorem rel_one (f : Nat → Bool) (hf : ∀ c : Nat, c < 128 → f c = charB c) : RelE .one ⟨false, f⟩ := ⟨rfl, fun _ c hc => by
  show hasB nameBytes c = f c
  rw [name_char c (by omega) (by omega), hf c hc], fun c h0 h1 h => by rw [← name_char c h0 h1]; exact h⟩
theorem rel_lit {s : ByteArray} {k : Nat} (h : k < s.size) (hc : charB (at8 s k) = true) (f : Nat → Bool) (hf : ∀ c : Nat, c < 128 → f c = decide ((c : Int) = at8 s k)) : RelE (.lit (s.extract k (k + 1))) ⟨false, f⟩ := by
  have hh : ∀ c : Int, 0 ≤ c → c ≤ 255 → hasB (El.lit (s.extract k (k + 1))).chars c = decide (c = at8 s k) := fun c h0 h1 => by
    show hasB (s.extract k (k + 1)) c = _
    rw [extract1 h]
    have := hasB_b1 (a := ⟨#[]⟩) (c := at8 s k) (d := c) (at8_bd s k) ⟨h0, h1⟩
    have e : (⟨#[]⟩ : ByteArray) ++ b1 (at8 s k) = b1 (at8 s k) := ByteArray.empty_append
    rw [e] at this
    rw [this]
    have : hasB ⟨#[]⟩ c = false := rfl
    rw [this, Bool.false_or]
  refine ⟨rfl, fun _ c hc => ?_, fun c h0 h1 hx => ?_⟩
  · show _ = f c
    rw [hh c (by omega) (by omega), hf c hc]
  · rw [hh c h0 h1] at hx
    have : c = at8 s k := by simpa using hx
    rw [this]; exact hc

/-- What the reference's Compile yields. -/
def RcPost (s : ByteArray) (w : World) (e : Ending) (w' : World) : Prop := K0 w w' ∧
    match compileR s with
    | .inl els => ∃ p c rs, e = .returned (.tuple #[.agg #[.string s, .slice p rs.length c], .int .i64 0, .int .i64 0]) ∧ w'.ownsRow w.heap.size 150 129 (.slice p rs.length c) rs.length (rows rs) ∧ RelEs els rs
    | .inr (o, x) => e = .returned (.tuple #[.agg #[.string ⟨#[]⟩, .slice none 0 0], .int .i64 o, .int .i64 x])
set_option maxHeartbeats 1000000 in
set_option maxRecDepth 100000 in
theorem rcompile_any (s : ByteArray) (w : World) : Calls Tryd.prog 56 #[.string s] w (RcPost s w) := by
  refine vc_rcompile s w _ ?_
  intro n w1 hn
  have p1 : PB w1 n := ⟨_, _, hn.block⟩
  have gn : w.heap.size ≤ n := hn.ge
  have k1 : K0 w w1 := hn.kp _
  have fail : ∀ (wx : World) (o : Int) (x : Int), PB wx n → K0 w wx → (∀ w', K0 w w' → RcPost s w (.returned (.tuple #[.agg #[.string ⟨#[]⟩, .slice none 0 0], .int .i64 o, .int .i64 x])) w') →
      WrL wx n 0 2 ∧ ∀ (w1 : World), PutB wx n 0 [.string ⟨#[]⟩, .slice none 0 0] w1 → ∃ (x_1 : ByteArray) (p : Option Addr) (n_1 c : Nat), AtL w1 n 0 [.string x_1, .slice p n_1 c] ∧ RcPost s w (.returned (.tuple #[.agg #[.string x_1, .slice p n_1 c], .int .i64 o, .int .i64 x])) w1 := fun wx o x hpb hkx hfin =>
    ⟨hpb.wr, fun wy hp => ⟨_, _, _, _, AtL_block (hpb.put hp) rfl, hfin wy (hkx.fresh hp.kp (fun i hi e => by omega))⟩⟩
  rw [toList_nil]
  refine bsp_intro (fun h0 => ?_) (fun h0 => bsp_intro (fun h1 => ?_) (fun h1 => ?_))
  · have h0 : s.size = 0 := by simpa using h0
    exact fail w1 0 4 p1 k1 (fun w' hk => ⟨hk, by simp only [compileR, h0, if_true]; rfl⟩)
  · have h0 : ¬ s.size = 0 := by simpa using h0
    have h1 : 80 < s.size := by simp at h1; omega
    exact fail w1 80 5 p1 k1 (fun w' hk => ⟨hk, by simp only [compileR, h0, h1, if_true, if_false]; rfl⟩)
  have h0 : ¬ s.size = 0 := by simpa using h0
  have h1 : ¬ 80 < s.size := by simp at h1; omega
  have hR : compileR s = compS s s.size 0 [] := by simp only [compileR, h0, h1, if_false]
  intro n1 w2 hn1
  have hn1' : n < n1 := by have := hn.size; have := hn1.hn; omega
  refine ⟨WrL_block hn1.block (by simp), fun w3 hp3 => ?_⟩
  have k13 : K0 w1 w3 := (hn1.kp (fun _ => False)).fresh hp3.kp (fun i hi e => by have := hn1.hn; omega)
  have st3 : RSt w3 n1 s [] := ⟨none, 0, hp3.full hn1.block rfl, World.ownsRow_nil _ _ _ _⟩
  -- one element more
  have app : ∀ (b : Bool) (f : Nat → Bool) (rs : List RE) (wa : World), RSt wa n1 s rs → PB wa n → K0 w wa → rs.length ≤ 80 →
      ∃ (p : Option Addr) (n_3 c : Nat), wa.cell? (Addr.mk n1 (0 + 1) none) = some (.slice p n_3 c) ∧ ∀ (n_2 : Nat), SetB wa n_2 b f → ∃ (x_2 : Bool) (f' : Nat → Bool), AtL wa n_2 0 ([Value.bool x_2] ++ arrBo f' 128 0) ∧ ∀ (n_4 : Nat) (wb : World), NewB wa (.cells ([Value.bool x_2] ++ arrBo f' 128 0).toArray 150) n_4 wb → ∀ (Y : World → Prop), (∀ w2, RSt w2 n1 s (rs ++ [⟨b, f⟩]) → PB w2 n → K0 w w2 → Y w2) →
        ∃ (base : Nat) (xs news : List Value), wb.ownsRow base 150 129 (.slice p n_3 c) n_3 xs ∧ news.length = 129 ∧ SrcP wb (some (Addr.mk n_4 0 none)) news ∧ n_3 + 1 ≤ 9223372036854775807 ∧ (n_3 + 1) * 129 ≤ 140737488355328 ∧ base ≤ wb.heap.size ∧
          ∀ (p' : Option Addr) (c' : Nat) (w' : World), w'.ownsRow base 150 129 (.slice p' (n_3 + 1) c') (n_3 + 1) (xs ++ news) → wb.grownBy w' (Value.slice p n_3 c).ownBlock →
            ((∃ (u : Value), w'.cell? (Addr.mk n1 (0 + 1) none) = some u) ∧ w'.frozen? (Addr.mk n1 (0 + 1) none) = false) ∧ ∀ (w1 : World), PutB w' n1 (0 + 1) [Value.slice p' (n_3 + 1) c'] w1 → Y w1 := by
    intro b f rs wa ⟨p, c, hb, ho⟩ hpb hwa hlen
    refine ⟨p, rs.length, c, cell_at hb rfl, fun n_2 hs => ⟨b, f, hs.at_, fun n_4 wb hn4 Y hY => ?_⟩⟩
    refine app1 ho (block_lt hb) hn4 (by simp [arrBo_length]) (fun u hu => reL_one b f u hu) (by omega) (by omega) (fun p' c' w' ho' hk' _ => ?_)
    have hne : ∀ k, (Value.slice p rs.length c).ownBlock = some k → ¬ n1 = k := fun k hk e => by have := own_ge ho hk; omega
    have hb' : w'.heap[n1]? = some (.cells #[.string s, .slice p rs.length c] 120 (0, 0)) := hk'.blk hb (fun e => hne _ e rfl)
    refine ⟨cell_wr hb' (by simp), fun w2 hp => hY w2 ⟨p', c', ?_, ?_⟩ ((hpb.kp hk' (fun e => by have := own_ge ho e; omega)).kp hp.kp (fun e => by omega)) ?_⟩
    · rw [List.length_append]; exact hp.block hb'
    · rw [rows_snoc, List.length_append]
      have : ([Value.bool b] ++ arrBo f 128 0).toArray.toList = reL b f := rfl
      rw [this] at ho'
      exact owns_kp ho' hp.kp (fun k hk e => by have := own_ge ho' hk; omega)
    · have := hwa.size
      exact (hwa.fresh hk' (fun i hi e => by have := own_ge ho e; omega)).fresh hp.kp (fun i hi e => by omega)
  refine ⟨fun vs w' => ∃ (k f : Nat) (acc : List El) (rs : List RE), vs = [.int .i64 k] ∧ k ≤ s.size ∧ s.size - k ≤ f ∧ acc.length ≤ k ∧ compS s f k acc = compS s s.size 0 [] ∧ RelEs acc rs ∧ RSt w' n1 s rs ∧ PB w' n ∧ K0 w w',
    fun vs _ => (match vs with | .int _ x :: _ => s.size - x.toNat | _ => 0), ⟨0, s.size, [], [], rfl, by omega, by omega, by simp, rfl, ⟨rfl, fun j e r h _ => by simp at h⟩, st3, p1.kp k13 (fun h => h), k1.trans k13⟩, fun x w' ⟨k, f, acc, rs, hv, hk, hf, hacc, hS, hrel, hst, hpb, hw⟩ => ?_⟩
  have hv : x = (k : Int) := by simpa using hv
  subst hv
  have hrl : rs.length ≤ k := by rw [← hrel.len]; exact hacc
  refine bsp_intro (fun hlt => ?_) (fun hge => ?_)
  · have hlt : k < s.size := by simpa using hlt
    obtain ⟨f, rfl⟩ : ∃ g, f = g + 1 := ⟨f - 1, by omega⟩
    have e0 : (k : Int).toNat = k := by omega
    rw [e0]
    have hin : 0 ≤ (k : Int) ∧ (k : Int) < (s.size : Int) := by omega
    intro n2 w4 hn2
    have b4 : SetB w4 n2 false (fun _ => false) := setB_new (by kernel_rfl) hn2
    have g2 : w'.heap.size ≤ n2 := hn2.ge
    have k4 : K0 w' w4 := hn2.kp _
    refine ⟨fun vs wx => ∃ (b : Bool) (g : Nat → Bool) (el : El), vs = [.int .i64 (k : Int)] ∧ SetB wx n2 b g ∧ RelE el ⟨b, g⟩ ∧ compS s f (k + 1) (acc ++ [el]) = compS s s.size 0 [] ∧ K0 w' wx, ⟨hin, ?_⟩, fun x_1 wx ⟨b, g, el, hv, hs, hre, hcs, hkx⟩ => ?_⟩
    · refine bsp_intro (fun c1 => ⟨cell_wr b4 (by simp [reL]), fun w5 hp => ⟨true, fun _ => false, .star, rfl, b4.star hp, rel_star, ?_, k4.fresh hp.kp (fun i hi e => by omega)⟩⟩) (fun c1 => ⟨hin, bsp_intro (fun c2 => ?_) (fun c2 => ⟨hin, bsp_intro (fun c3 => ?_) (fun c3 => ⟨hin, bsp_intro (fun c4 => ?_) (fun c4 => ?_)⟩)⟩)⟩)
      · rw [← hS]
        have : (at8 s k == 63) = false := by
          have : at8 s k = 42 := by simpa using c1
          rw [this]; rfl
        simp [compS, hlt, this, c1]
      · refine ⟨fun vs wx => ∃ m : Nat, vs = [.int .i64 m] ∧ m ≤ 128 ∧ SetB wx n2 false (fun d => decide (d < m) && charB d) ∧ K0 w' wx, fun vs _ => (match vs with | .int _ x :: _ => 128 - x.toNat | _ => 0), ⟨0, rfl, by omega, b4.congr (fun d _ => by simp), k4⟩, ?_⟩
        rintro x wy ⟨m, hv, hm, hby, hky⟩
        have hv : x = (m : Int) := by simpa using hv
        subst hv
        refine bsp_intro (fun hlm => ?_) (fun hgm => ?_)
        · have hlm : m < 128 := by simp at hlm; omega
          have eu : IntKind.u8.wrap (m : Int) = (m : Int) := IntWalk.u8_in m ⟨by omega, by omega⟩
          rw [eu, Int.toNat_natCast]
          refine ⟨⟨by omega, by omega⟩, hby.wr hlm, fun wz hp => ⟨⟨m + 1, ?_, by omega, (hby.put hp).congr (fun d _ => ?_), hky.fresh hp.kp (fun i hi e => by omega)⟩, ?_⟩⟩
          · rw [wr64 (by omega) (by omega)]; rfl
          · show (if d = m then charB m else (decide (d < m) && charB d)) = (decide (d < m + 1) && charB d)
            by_cases e : d = m
            · subst e; simp
            · rw [if_neg e]
              have : decide (d < m) = decide (d < m + 1) := by rw [decide_eq_decide]; omega
              rw [this]
          · rw [wr64 (by omega) (by omega)]
            simp only
            omega
        · have hgm : ¬ m < 128 := by simp at hgm; omega
          refine ⟨false, _, .one, rfl, hby, rel_one _ (fun c hc => ?_), ?_, hky⟩
          · have : decide (c < m) = true := by simp; omega
            rw [this, Bool.true_and]
          · rw [← hS]
            simp [compS, hlt, c2]
      · have c3' : at8 s k = 91 := by simpa using c3
        refine ⟨(rclass_any s k w4 hlt c3' (by omega)).mono fun e w5 ⟨hk5, he⟩ => ?_⟩
        have hcs0 : compS s (f + 1) k acc = if clsN (s.extract k s.size) = 0 then .inr (k, 3) else compS s f (k + clsN (s.extract k s.size)) (acc ++ [.cls (clsS (s.extract k s.size))]) := by simp [compS, hlt, c1, c2, c3]
        have hxs : (s.extract k s.size).size = s.size - k := by rw [ByteArray.size_extract]; omega
        have hle := clsN_le (s.extract k s.size) (by omega)
        rcases he with ⟨h0, b, g, he⟩ | ⟨h0, g, he, hre⟩
        · refine ⟨b, g, _, he, fun n3 w6 hn3 => ?_⟩
          have b6 : SetB w6 n3 false (fun _ => false) := setB_new (by kernel_rfl) hn3
          refine ⟨b6.wrl, fun w7 hp7 => bsp_intro (fun _ => ?_) (fun h => absurd h (by decide))⟩
          have k7 : K0 w' w7 := ((k4.trans hk5).trans (hn3.kp _)).fresh hp7.kp (fun i hi e => by have := (k4.trans hk5).size; have := hn3.ge; omega)
          refine fail w7 k 3 (hpb.kp k7 (fun h => h)) (hw.trans k7) (fun w' hk => ⟨hk, ?_⟩)
          rw [hR, ← hS, hcs0, if_pos h0]
        · refine ⟨false, g, _, he, fun n3 w6 hn3 => ?_⟩
          have b6 : SetB w6 n3 false (fun _ => false) := setB_new (by kernel_rfl) hn3
          refine ⟨b6.wrl, fun w7 hp7 => bsp_intro (fun h => ?_) (fun _ => ?_)⟩
          · exfalso; simp at h; omega
          have k7 : K0 w' w7 := ((k4.trans hk5).trans (hn3.kp _)).fresh hp7.kp (fun i hi e => by have := (k4.trans hk5).size; have := hn3.ge; omega)
          have b7 : SetB w7 n3 false g := b6.full hp7
          rw [if_neg h0] at hcs0
          obtain ⟨p, n_3, c, q1, q2⟩ := app false g rs w7 (hst.kp k7) (hpb.kp k7 (fun h => h)) (hw.trans k7) (by omega)
          obtain ⟨x2, f2, q3, q4⟩ := q2 n3 b7
          refine ⟨p, n_3, c, q1, x2, f2, q3, fun n4 w8 hn4 => q4 n4 w8 hn4 _ (fun w9 r1 r2 r3 => ⟨⟨k + clsN (s.extract k s.size), f, _, _, rfl, by omega, by omega, ?_, hcs0.symm.trans hS, hrel.snoc hre, r1, r2, r3⟩, ?_⟩)⟩
          · simp; omega
          · simp only; omega
      · have hcb := charB_lt c4
        refine ⟨hin, ⟨hcb.1, hcb.2⟩, b4.wr (by omega), fun w5 hp => ⟨false, _, .lit (s.extract k (k + 1)), rfl, b4.put hp, rel_lit hlt c4 _ (fun c hc => ?_), ?_, k4.fresh hp.kp (fun i hi e => by omega)⟩⟩
        · show (if c = (at8 s k).toNat then true else false) = decide ((c : Int) = at8 s k)
          by_cases e : c = (at8 s k).toNat
          · rw [if_pos e]; simp; omega
          · rw [if_neg e]; simp; omega
        · rw [← hS]
          have : hasB nameBytes (at8 s k) = true := by rw [name_char _ hcb.1 (by omega)]; exact c4
          simp [compS, hlt, c1, c2, c3, this]
      · refine fail w4 k 6 (hpb.kp k4 (fun h => h)) (hw.trans k4) (fun w' hk => ⟨hk, ?_⟩)
        rw [hR, ← hS]
        have : hasB nameBytes (at8 s k) = false := by rw [name_char _ (at8_bd s k).1 (at8_bd s k).2]; exact c4
        simp only [compS, hlt, if_true, c1, c2, c3, this, Bool.false_eq_true, if_false]
    · have hv : x_1 = (k : Int) := by simpa using hv
      subst hv
      rw [wr64 (by omega) (by omega)]
      obtain ⟨p, n_3, c, q1, q2⟩ := app b g rs wx (hst.kp hkx) (hpb.kp hkx (fun h => h)) (hw.trans hkx) (by omega)
      obtain ⟨x2, f2, q3, q4⟩ := q2 n2 hs
      refine ⟨p, n_3, c, q1, x2, f2, q3, fun n4 w8 hn4 => q4 n4 w8 hn4 _ (fun w9 r1 r2 r3 => ⟨⟨k + 1, f, _, _, rfl, by omega, by omega, ?_, hcs, hrel.snoc hre, r1, r2, r3⟩, ?_⟩)⟩
      · simp; omega
      · simp only; omega
  · have hge : ¬ k < s.size := by simpa using hge
    have hc : compS s f k acc = .inl acc := by cases f <;> simp [compS, hge]
    obtain ⟨p, c, hb, ho⟩ := hst
    refine ⟨_, _, _, _, AtL_block hb rfl, hpb.wr, fun wy hp => ⟨_, _, _, _, AtL_block (hpb.put hp) rfl, hw.fresh hp.kp (fun i hi e => by omega), ?_⟩⟩
    rw [hR, ← hS, hc]
    refine ⟨p, c, rs, rfl, ?_, hrel⟩
    have ho' := owns_kp ho hp.kp (fun k hk e => by have := own_ge ho hk; omega)
    exact ⟨ho'.1, ho'.2.imp id fun ⟨g, cap, cur, a1, a2, a3⟩ => ⟨g, cap, cur, a1, by omega, a3⟩⟩

end Go.Proofs.YtcpjajjocmpkjaaDoor
