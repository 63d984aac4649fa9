/- Chapter 27: the contract of Parse. A text is not too long; the library's variable MaxLen holds a number. -/
import Derived.Test.YtgmmoghagpmpfaaGreatDoorZ11
import Derived.Test.YtgmmoghagpmpfaaGreatDoorProg
import Derived.Test.YtgmmoghagpmpfaaGreatDoorZ02
import Derived.Test.YtgmmoghagpmpfaaGreatDoorZ04
import Derived.KernelRfl
import Derived.Test.YtgmmoghagpmpfaaGreatDoorZ09
import Derived.Test.YtgmmoghagpmpfaaGreatDoorZ08
namespace Go.Proofs.YtgmmoghagpmpfaaGreatDoor
open Go.RowKit Go.Maps Go.Sort

theorem insA_end {A : TA} {k : ByteArray} {v : Gv} (h : ∀ p ∈ A, gnC p.1 k < 0) : insA gnC A k v = A ++ [(k, v)] := by
  have e1 : ∀ (l : TA), (∀ p ∈ l, gnC p.1 k < 0) → l.takeWhile (fun p => decide (gnC p.1 k < 0)) = l ∧ l.dropWhile (fun p => decide (gnC p.1 k < 0)) = [] := by
    intro l
    induction l with
    | nil => exact fun _ => ⟨rfl, rfl⟩
    | cons p r ih =>
      intro hl
      obtain ⟨i1, i2⟩ := ih (fun q hq => hl q (List.mem_cons_of_mem _ hq))
      have hp := hl p List.mem_cons_self
      rw [List.takeWhile_cons, List.dropWhile_cons, if_pos (by simpa using hp), if_pos (by simpa using hp), i1, i2]
      exact ⟨rfl, rfl⟩
  unfold insA
  rw [(e1 A h).1, (e1 A h).2]
theorem ksort_last {A : TA} (h : KSort gnC A) {k : ByteArray} (hb : ∀ p, A.getLast? = some p → gnC p.1 k < 0) : ∀ p ∈ A, gnC p.1 k < 0 := by
  have := ksort_snoc (g := (k, (⟨0, false, []⟩ : Gv))) h hb
  intro p hp
  exact (List.pairwise_append.1 this).2.2 p hp _ (List.mem_singleton.2 rfl)
theorem joinT_len {c : UInt8} : ∀ (l : List ByteArray), (∀ x ∈ l, 0 < x.size) → l.length ≤ (joinT c l).size
  | [], _ => Nat.le_refl _
  | [x], h => h x List.mem_cons_self
  | x :: y :: r, h => by
    have h1 := joinT_len (c := c) (y :: r) (fun z hz => h z (List.mem_cons_of_mem _ hz))
    have h2 := h x List.mem_cons_self
    rw [joinT_cons, ByteArray.size_append, ByteArray.size_append, size_one, List.length_cons]
    omega
theorem joinT_mem {c : UInt8} : ∀ (l : List ByteArray) (x : ByteArray), x ∈ l → x.size ≤ (joinT c l).size
  | [], _, h => by cases h
  | [y], x, h => by rw [List.mem_singleton.1 h]; exact Nat.le_refl _
  | y :: z :: r, x, h => by
    rw [joinT_cons, ByteArray.size_append, ByteArray.size_append]
    rcases List.mem_cons.1 h with rfl | h
    · omega
    · have := joinT_mem (c := c) (z :: r) x h
      omega
/-- A set has no more ranges than the table's text has bytes. -/
theorem prT_ranges {A : TA} (hA : ∀ p ∈ A, LnOK p.1 p.2) : ∀ p ∈ A, p.2.l.length ≤ (prT A).size := by
  induction A with
  | nil => intro p hp; cases hp
  | cons q A ih =>
    intro p hp
    rw [prT_cons, ByteArray.size_append]
    rcases List.mem_cons.1 hp with rfl | hp
    · have hok := hA p List.mem_cons_self
      have h1 : p.2.l.length ≤ (lnT p).size := by
        unfold lnT
        rw [ByteArray.size_append]
        cases hv : p.2.l with
        | nil => exact Nat.zero_le _
        | cons x t =>
          have hm : rngT p.2.l ∈ wdT p.1 p.2 := by unfold wdT; rw [hv]; simp
          have h2 := joinT_mem (c := 32) _ _ hm
          have h3 := joinT_len (c := 44) (p.2.l.map ivT) (fun y hy => by
            obtain ⟨z, hz, rfl⟩ := List.mem_map.1 hy
            exact ivT_pos (by have := (hok.iv.mem z hz).1; omega))
          rw [List.length_map] at h3
          have h4 : p.2.l.length ≤ (rngT p.2.l).size := h3
          rw [← hv]
          omega
      omega
    · have := ih (fun r hr => hA r (List.mem_cons_of_mem _ hr)) p hp
      omega
set_option maxHeartbeats 2000000 in
theorem acparse_any (s : ByteArray) (w : World) (hs : s.size ≤ 1048576) (hw : 0 < w.heap.size) (hG : GW w) :
    Calls Tryz.prog 13 #[.string s] w fun e w' => (match parseT s with
      | .inl A => ∃ b mb m, e = .returned (.tuple #[.pointer (some ⟨b, 0, none⟩), .int .i64 0, .int .i64 0]) ∧ Tq w' w.heap.size b mb m A
      | .inr (n, er) => e = .returned (.tuple #[.pointer none, .int .i64 (n : Nat), .int .i64 er]) ∧ er ≠ 0) ∧ K0 w w' := by
  refine vc_acparse s w _ (bsp_intro (fun h => by simp at h; omega) (fun _ => ⟨(acnew_any w hw).mono fun e w1 ⟨⟨b, mb, he, hT⟩, k1⟩ => ⟨_, he, .of_k0 k1, ?_⟩⟩))
  refine ⟨fun vs w' => ∃ (A : TA) (m : TM) (f : Nat) (bf rest : ByteArray), vs = [.pointer (some ⟨b, 0, none⟩), .string bf, .string rest, .int .i64 (A.length : Nat)] ∧ Tq w' w.heap.size b mb m A ∧ parseT s = parseA f rest (A.length + 1) bf A ∧ rest.size < f ∧ rest.size ≤ s.size ∧ bf.size ≤ 1048576 ∧ (∀ p, A.getLast? = some p → bf = p.1) ∧ K0 w w',
    fun vs _ => (match vs with | [_, _, .string r, _] => r.size | _ => 0), ⟨[], [], s.size + 1, ⟨#[]⟩, s, rfl, hT, rfl, by omega, by omega, by show 0 ≤ 1048576; omega, (fun p hp => by cases hp), k1⟩, ?_⟩
  rintro x0 x1 x2 x3 w2 ⟨A, m, f, bf, rest, hv, hT2, hE, hf, hrs, hbz, hbf, k2⟩
  simp only [List.cons.injEq, Value.pointer.injEq, Value.string.injEq, Value.int.injEq, true_and, and_true] at hv
  obtain ⟨rfl, rfl, rfl, rfl⟩ := hv
  obtain ⟨f, rfl⟩ : ∃ g, f = g + 1 := ⟨f - 1, by omega⟩
  have hE2 : parseT s = if x2.size = 0 then .inl A else if ¬ findC 10 x2 < x2.size then .inr (A.length + 1, 4) else
    match lineA (x2.extract 0 (findC 10 x2)) x1 with
    | .inr e => .inr (A.length + 1, e)
    | .inl g => if 4096 < A.length + 1 then .inr (A.length + 1, 9) else parseA f (x2.extract (findC 10 x2 + 1) x2.size) (A.length + 1 + 1) g.1 (A ++ [g]) := hE
  have hlen := hT2.len
  have hinc : IntKind.i64.wrap (((A.length : Nat) : Int) + 1) = ((A.length + 1 : Nat) : Int) := inc64 (by omega)
  have hG2 := gk0 hG k2
  rw [emB]
  refine bsp_intro (fun h0 => ?_) (fun h0 => ?_)
  · have h0 : x2.size ≠ 0 := by simpa using h0
    rw [if_neg h0] at hE2
    refine ⟨(cut27_any 10 x2 w2 (by omega) hG2).mono fun e w3 ⟨he, k3⟩ => ⟨_, _, _, he, .of_k0 k3, ?_⟩⟩
    have k03 := k2.trans k3
    by_cases hk : findC 10 x2 < x2.size
    · rw [if_neg (by simpa using hk)] at hE2
      rw [if_pos hk, if_pos hk, decide_eq_true hk]
      have z1 : (x2.extract 0 (findC 10 x2)).size ≤ 1048576 := by rw [ByteArray.size_extract]; omega
      have z2 : (x2.extract (findC 10 x2 + 1) x2.size).size < x2.size := by rw [ByteArray.size_extract]; omega
      refine bsp_intro (fun h => by cases h) (fun _ => ⟨(acpline_any (x2.extract 0 (findC 10 x2)) x1 w3 z1 hbz (gk0 hG k03)).mono fun e w4 hP => ?_⟩)
      unfold PLn at hP
      obtain ⟨hP, k4⟩ := hP
      have k04 := k03.trans k4
      cases hl : lineA (x2.extract 0 (findC 10 x2)) x1 with
      | inr er =>
        rw [hl] at hP hE2
        obtain ⟨he0, he⟩ := hP
        refine ⟨_, _, _, _, _, _, _, he, .of_k0 k4, fun n1 => bsp_intro (fun _ W hW => ?_) (fun h => by simp at h; exact absurd h he0)⟩
        rw [hE2, hinc]
        exact ⟨⟨rfl, he0⟩, hW.k0 k04⟩
      | inl g =>
        rw [hl] at hP hE2
        obtain ⟨p, c, he, ho⟩ := hP
        obtain ⟨g1, g2, g3⟩ := lineA_ok hl
        have hgz := name_size g1.nm
        refine ⟨_, _, _, _, _, _, _, he, .of_k0 k4, fun n1 => bsp_intro (fun h => by simp at h) (fun _ => ?_)⟩
        rw [hinc]
        refine bsp_intro (fun h9 W hW => ?_) (fun h9 => nn_is rfl ⟨some mb, fun W hW => (hT2.k0 ((k3.trans k4).trans (hW.kk rfl))).z.cM, fun W hW => ?_⟩)
        · have h9 : 4096 < A.length + 1 := by simp at h9; omega
          simp only at hE2
          rw [if_pos h9] at hE2
          rw [hE2]
          exact ⟨⟨rfl, by decide⟩, hW.k0 k04⟩
        · have h9 : ¬ 4096 < A.length + 1 := by simp at h9; omega
          simp only at hE2
          rw [if_neg h9] at hE2
          have k2W : K0 w2 W := (k3.trans k4).trans (hW.kk rfl)
          have hall : ∀ q ∈ A, gnC q.1 g.1 < 0 := ksort_last hT2.wf.sort (fun q hq => by
            have e := hbf q hq
            rw [← e]
            refine g2 (fun e2 => ?_)
            have := (name_no (hT2.wf.nm q (List.mem_of_getLast? hq))).1
            rw [← e] at this
            omega)
          have hins := insA_end (v := g.2) hall
          have hnone : aget A g.1 = none := by
            rw [aget_none]
            intro q hq e
            have := hall q hq
            rw [e, gnC_ord.self] at this
            omega
          have hmn : aget m g.1 = none := by
            have := hT2.get g.1
            rw [hnone] at this
            cases hx : aget m g.1 with
            | none => rfl
            | some y => rw [hx] at this; cases this
          have hm : ∀ {q}, q ∈ A ++ [g] → q ∈ A ∨ q = g := fun hp => by
            rcases List.mem_append.1 hp with h | h
            · exact .inl h
            · exact .inr (List.mem_singleton.1 h)
          have hw2 : WF (A ++ [g]) := ⟨ksort_snoc hT2.wf.sort (fun q hq => hall q (List.mem_of_getLast? hq)), fun p hp => by rcases hm hp with h | rfl; exact hT2.wf.nm p h; exact g1.nm, fun p hp => by rcases hm hp with h | rfl; exact hT2.wf.hi p h; exact ⟨g1.h0, g1.hi⟩, fun p hp => by rcases hm hp with h | rfl; exact hT2.wf.iv p h; exact g1.iv⟩
          have hoW : Gx.own W w.heap.size ⟨g.2, p, c⟩ := owns_kp (own_base ho k03.size) (hW.kk rfl : K0 w4 W) (fun _ _ h => h)
          obtain ⟨w5, hu, hT5, k5⟩ := Ts.ins (w := W) hT2 (x := ⟨g.2, p, c⟩) hmn k2W (by omega) hoW (fun k (hk : (Value.slice p g.2.l.length c).ownBlock = some k) => by have := own_ge ho hk; have := k3.size; omega) (by show WF (insA gnC A g.1 g.2); rw [hins]; exact hw2) (by omega)
          have hA5 : insA gnC A g.1 (⟨g.2, p, c⟩ : Gx).v = A ++ [g] := hins
          rw [hA5] at hT5
          have hl1 : (A ++ [g]).length = A.length + 1 := by simp
          refine ⟨w5, hu, hT2.z.keptL k5 (fun k hk => by simp only [List.mem_cons, List.not_mem_nil, or_false] at hk; rw [hk]; have : w4.heap.size ≤ n1 := hW.fresh 0 rfl rfl; have := k3.size; have := k4.size; omega), ⟨A ++ [g], _, f, g.1, x2.extract (findC 10 x2 + 1) x2.size, by rw [hl1], hT5.t, by rw [hE2, hl1], by omega, by omega, by omega, fun q hq => by simp at hq; rw [← hq], hT5.base hT2.z k2 (Nat.le_refl _)⟩, z2⟩
    · rw [if_pos hk] at hE2
      rw [decide_eq_false hk]
      refine bsp_intro (fun _ => ?_) (fun h => by cases h)
      rw [hE2, hinc]
      exact ⟨⟨rfl, by decide⟩, k03⟩
  · have h0 : x2.size = 0 := by simpa using h0
    rw [if_pos h0] at hE2
    rw [hE2]
    exact ⟨⟨b, mb, m, rfl, hT2⟩, k2⟩

end Go.Proofs.YtgmmoghagpmpfaaGreatDoor

/- The formulas of functions by the symbolic evaluator, and that each gives the call's contract. Written by a program (gen.py). No condition. -/
namespace Go.Proofs.YtgmmoghagpmpfaaGreatDoor
set_option maxRecDepth 100000
set_option linter.unusedVariables false

def VC_aclknown (w : World) (R : Ending → World → Prop) : Prop :=
 CallsS Tryz.prog 19 #[] w fun (e : Ending) (w' : World) =>
 ∃ (x : Option Addr),
 e = Ending.returned (Value.pointer x) ∧
 KeptL [] w w' ∧
 bsp x.isNone (R (Ending.returned (Value.bool false)) w')
 (CallsS Tryz.prog 31 #[Value.pointer x, Value.string (ByteArray.mk #[97])] w' fun (e : Ending) (w'_1 : World) =>
 ∃ (x_1 : Int),
 e = Ending.returned (Value.int IntKind.i64 x_1) ∧
 KeptL [] w' w'_1 ∧
 ∀ (n : Nat) (W : World),
 Loc w.heap.size [Blk.mk n 9 [Value.string (ByteArray.mk #[97])] 2] w'_1 W →
 CallsS Tryz.prog 27 #[Value.pointer x, Value.slice (some (Addr.mk n 0 none)) 1 1] W
 fun (e : Ending) (w' : World) =>
 ∃ (p : Option Addr),
 ∃ (n : Nat),
 ∃ (c : Nat),
 ∃ (x_2 : Int),
 e = Ending.returned (Value.tuple #[Value.slice p n c, Value.int IntKind.i64 x_2]) ∧
 KeptL [] W w' ∧
 ∀ (n_1 : Nat) (W : World),
 Loc w.heap.size [Blk.mk n_1 9 [Value.string (ByteArray.mk #[97])] 2] w' W →
 CallsS Tryz.prog 27 #[Value.pointer x, Value.slice (some (Addr.mk n_1 0 none)) 1 1] W
 fun (e : Ending) (w' : World) =>
 ∃ (p_1 : Option Addr),
 ∃ (n_2 : Nat),
 ∃ (c : Nat),
 ∃ (x_3 : Int),
 e = Ending.returned (Value.tuple #[Value.slice p_1 n_2 c, Value.int IntKind.i64 x_3]) ∧
 KeptL [] W w' ∧
 ∀ (n_3 : Nat) (W : World),
 Loc w.heap.size [Blk.mk n_3 9 [Value.string (ByteArray.mk #[97])] 2] w' W →
 CallsS Tryz.prog 27 #[Value.pointer x, Value.slice (some (Addr.mk n_3 0 none)) 1 1] W
 fun (e : Ending) (w' : World) =>
 ∃ (p_2 : Option Addr),
 ∃ (n_4 : Nat),
 ∃ (c : Nat),
 ∃ (x_4 : Int),
 e =
 Ending.returned (Value.tuple #[Value.slice p_2 n_4 c, Value.int IntKind.i64 x_4]) ∧
 KeptL [] W w' ∧
 CallsS Tryz.prog 33
 #[Value.pointer x,
 Value.agg #[Value.string (ByteArray.mk #[97]), Value.int IntKind.i64 2]]
 w' fun (e : Ending) (w'_2 : World) =>
 ∃ (x_5 : Int),
 e = Ending.returned (Value.int IntKind.i64 x_5) ∧
 KeptL [] w' w'_2 ∧
 CallsS Tryz.prog 16 #[Value.pointer x, Value.string (ByteArray.mk #[97])] w'_2
 fun (e : Ending) (w' : World) =>
 ∃ (x_6 : ByteArray),
 ∃ (x_7 : Int),
 ∃ (x_8 : Int),
 ∃ (x_9 : Int),
 ∃ (x_10 : Bool),
 ∃ (x_11 : Int),
 e =
 Ending.returned
 (Value.tuple
 #[Value.agg
 #[Value.string x_6, Value.int IntKind.i64 x_7,
 Value.int IntKind.i64 x_8, Value.int IntKind.i64 x_9,
 Value.bool x_10],
 Value.int IntKind.i64 x_11]) ∧
 KeptL [] w'_2 w' ∧
 ∀ (n_5 : Nat) (W : World),
 Loc w.heap.size
 [Blk.mk n_5 31
 [Value.string x_6, Value.int IntKind.i64 x_7,
 Value.int IntKind.i64 x_8, Value.int IntKind.i64 x_9,
 Value.bool x_10]
 (wrM 2)]
 w' W →
 CallsS Tryz.prog 13
 #[Value.string
 (ByteArray.mk #[97, 32, 51, 32, 121, 32, 50, 44, 49, 10])]
 W fun (e : Ending) (w' : World) =>
 ∃ (x_12 : Option Addr),
 ∃ (x_13 : Int),
 ∃ (x_14 : Int),
 e =
 Ending.returned
 (Value.tuple
 #[Value.pointer x_12, Value.int IntKind.i64 x_13,
 Value.int IntKind.i64 x_14]) ∧
 KeptL [n_5] W w' ∧
 CallsS Tryz.prog 13
 #[Value.string
 (ByteArray.mk #[97, 32, 51, 32, 121, 32, 49, 44, 51, 10])]
 w' fun (e : Ending) (w'_3 : World) =>
 ∃ (x_15 : Option Addr),
 ∃ (x_16 : Int),
 ∃ (x_17 : Int),
 e =
 Ending.returned
 (Value.tuple
 #[Value.pointer x_15, Value.int IntKind.i64 x_16,
 Value.int IntKind.i64 x_17]) ∧
 KeptL [n_5] w' w'_3 ∧
 nn (x_1 == 0 && x_2 == 0 && (↑n : Int) == 1) p
 fun (b o : Nat) =>
 gimp (x_1 == 0 && x_2 == 0 && (↑n : Int) == 1)
 ((0 : Int) ≤ 0 ∧ 0 < (↑n : Int)) ∧
 ∃ (x_18 : ByteArray),
 ∃ (x_19 : Int),
 gimp (x_1 == 0 && x_2 == 0 && (↑n : Int) == 1)
 (AtL w'_3 b o
 [Value.string x_18, Value.int IntKind.i64 x_19]) ∧
 ∃ (r : Bool),
 gimp (x_1 == 0 && x_2 == 0 && (↑n : Int) == 1)
 (EqP Tryz.prog 64
 (Value.agg
 #[Value.string x_18,
 Value.int IntKind.i64 x_19])
 (Value.agg
 #[Value.string (ByteArray.mk #[97]),
 Value.int IntKind.i64 1])
 r) ∧
 ∃ (r_1 : Bool),
 gimp
 (x_1 == 0 && x_2 == 0 && (↑n : Int) == 1 &&
 r &&
 x_5 == 0 &&
 x_11 == 0)
 (EqP Tryz.prog 31
 (Value.agg
 #[Value.string x_6,
 Value.int IntKind.i64 x_7,
 Value.int IntKind.i64 x_8,
 Value.int IntKind.i64 x_9, Value.bool x_10])
 (Value.agg
 #[Value.string (ByteArray.mk #[97]),
 Value.int IntKind.i64 1,
 Value.int IntKind.i64 3,
 Value.int IntKind.i64 2, Value.bool false])
 r_1) ∧
 bsp
 (x_1 == 0 && x_2 == 0 && (↑n : Int) == 1 &&
 r &&
 x_5 == 0 &&
 x_11 == 0 &&
 r_1)
 (CallsS Tryz.prog 17 #[Value.pointer x] w'_3
 fun (e : Ending) (w' : World) =>
 ∃ (x_20 : ByteArray),
 e = Ending.returned (Value.string x_20) ∧
 KeptL [n_5] w'_3 w' ∧
 bsp
 (true &&
 x_20.toList ==
 [(ByteArray.mk
 #[97, 32, 51, 32, 121, 32, 49,
 44, 51, 10]).get!
 0,
 (ByteArray.mk
 #[97, 32, 51, 32, 121, 32, 49,
 44, 51, 10]).get!
 1,
 (ByteArray.mk
 #[97, 32, 51, 32, 121, 32, 49,
 44, 51, 10]).get!
 2,
 (ByteArray.mk
 #[97, 32, 51, 32, 121, 32, 49,
 44, 51, 10]).get!
 3,
 (ByteArray.mk
 #[97, 32, 51, 32, 121, 32, 49,
 44, 51, 10]).get!
 4,
 (ByteArray.mk
 #[97, 32, 51, 32, 121, 32, 49,
 44, 51, 10]).get!
 5,
 (ByteArray.mk
 #[97, 32, 51, 32, 121, 32, 49,
 44, 51, 10]).get!
 6,
 (ByteArray.mk
 #[97, 32, 51, 32, 121, 32, 49,
 44, 51, 10]).get!
 7,
 (ByteArray.mk
 #[97, 32, 51, 32, 121, 32, 49,
 44, 51, 10]).get!
 8,
 (ByteArray.mk
 #[97, 32, 51, 32, 121, 32, 49,
 44, 51, 10]).get!
 9] &&
 x_13 == 1 &&
 x_14 == 3 &&
 x_17 == 0 &&
 !x_15.isNone)
 (CallsS Tryz.prog 24
 #[Value.pointer x_15, Value.pointer x] w'
 fun (e : Ending) (w'_4 : World) =>
 ∃ (x : Bool),
 e = Ending.returned (Value.bool x) ∧
 KeptL [n_5] w' w'_4 ∧
 R
 (Ending.returned
 (Value.bool (true && x)))
 w'_4)
 (KeptL [n_5] w' w' ∧
 R (Ending.returned (Value.bool false))
 w'))
 (KeptL [n_5] w'_3 w'_3 ∧
 KeptL [n_5] w'_3 w'_3 ∧
 R (Ending.returned (Value.bool false)) w'_3))
theorem vc_aclknown (w : World) (R : Ending → World → Prop) (h : VC_aclknown w R) : Calls Tryz.prog 15 ([] : List Value).toArray w R := by
  have e : execR2 { P := Tryz.prog, loops := [], pur := pur1, tails := [], joins := [], boxes := [] } Tryz.f15.results.toList R (Tryz.f15.body.getD .skip) (initF [] (Tryz.f15.ntmps - ([] : List Value).length)) w = VC_aclknown w R := by kernel_rfl
  have hb : Tryz.f15.body = some (Tryz.f15.body.getD .skip) := by kernel_rfl
  exact calls_of_exec2' (P := Tryz.prog) (fn := Tryz.f15) (c := Tryz.f15.body.getD .skip) (args := []) (w := w) (R := R) pur1_ok Tryz.func15 hb e h

end Go.Proofs.YtgmmoghagpmpfaaGreatDoor

/- Chapter 27: the examples of the chapter hold: known returns true. The library's variable MaxLen holds a number, its table of powers of ten reads as laid. -/
namespace Go.Proofs.YtgmmoghagpmpfaaGreatDoor
open Go.RowKit Go.Maps Go.Sort

theorem gw_lt {w : World} (h : GW w) : 0 < w.heap.size := by
  obtain ⟨m, hm⟩ := h
  rcases Nat.lt_or_ge 0 w.heap.size with h' | h'
  · exact h'
  · unfold World.cell? at hm
    simp only [Array.getElem?_eq_none h'] at hm
    cases hm
def kA : ByteArray := ⟨#[97]⟩
def kT1 : ByteArray := ⟨#[97, 32, 51, 32, 121, 32, 50, 44, 49, 10]⟩
def kT2 : ByteArray := ⟨#[97, 32, 51, 32, 121, 32, 49, 44, 51, 10]⟩
def tA (h : Int) (l : List Iv) : TA := [(kA, ⟨h, false, l⟩)]
section
set_option maxRecDepth 100000
theorem kn0 : opA [] kA = (tA 0 [], 0) := by kernel_rfl
theorem kn1 : asR (tA 0 []) [kA] = (tA 1 [⟨1, 1⟩], [1], 0) := by kernel_rfl
theorem kn2 : asR (tA 1 [⟨1, 1⟩]) [kA] = (tA 2 [⟨1, 2⟩], [2], 0) := by kernel_rfl
theorem kn3 : asR (tA 2 [⟨1, 2⟩]) [kA] = (tA 3 [⟨1, 3⟩], [3], 0) := by kernel_rfl
theorem kn4 : rmA (tA 3 [⟨1, 3⟩]) kA 2 = (tA 3 [⟨1, 1⟩, ⟨3, 3⟩], 0) := by kernel_rfl
theorem kn5 : aget (tA 3 [⟨1, 1⟩, ⟨3, 3⟩]) kA = some ⟨3, false, [⟨1, 1⟩, ⟨3, 3⟩]⟩ := by kernel_rfl
theorem kn6 : parseT kT1 = .inr (1, 3) := by kernel_rfl
theorem kn7 : parseT kT2 = .inl (tA 3 [⟨1, 1⟩, ⟨3, 3⟩]) := by kernel_rfl
end
theorem kn8 : prT (tA 3 [⟨1, 1⟩, ⟨3, 3⟩]) = kT2 := (parse_ok kn7).2.2
theorem row_lit {w : World} {n : Nat} {t : TypeId} {f : Nat × Nat} (h : w.heap[n]? = some (.cells #[.string kA] t f)) : StrP w (some ⟨n, 0, none⟩) [kA] := strP_lit (zs := [kA]) h
theorem ty_lit {w : World} {n : Nat} {c : Array Value} {t : TypeId} {f : Nat × Nat} (h : w.heap[n]? = some (.cells c t f)) : TyN t w (some ⟨n, 0, none⟩) := fun g o e => by
  cases e
  exact ⟨_, _, h⟩
set_option maxHeartbeats 4000000 in
set_option maxRecDepth 100000 in
theorem acknown_any (w : World) (hG : GW w) (hT : GT w) : Calls Tryz.prog 15 #[] w fun e w' => e = .returned (.bool true) ∧ K0 w w' := by
  have hw := gw_lt hG
  refine vc_aclknown w _ ?_
  refine ⟨(acnew_any w hw).mono fun e w1 ⟨⟨b, mb, he, hT1⟩, k1⟩ => ⟨_, he, .of_k0 k1, bsp_intro (fun h => by cases h) (fun _ => ?_)⟩⟩
  refine ⟨(acopen_any hT1 kA (by decide) (gk0 hG k1)).mono fun e w2 ⟨he, m2, hT2⟩ => ?_⟩
  rw [kn0] at he hT2
  have k2 : K0 w w2 := hT2.base hT1.z k1 (Nat.le_refl _)
  refine ⟨_, he, ⟨hT2.k.size, fun _ hm => by cases hm⟩, fun n1 W2 hW2 => ?_⟩
  have kW2 : K0 w W2 := k2.trans (hW2.kk rfl)
  have hTW2 := hT2.t.k0 (hW2.kk rfl)
  refine ⟨(acassign_any hTW2 [kA] (some ⟨n1, 0, none⟩) 1 (row_lit (hW2.cells 0 rfl)) (ty_lit (hW2.cells 0 rfl)) (by decide) (by decide) (by decide)).mono fun e w3 ⟨⟨p3, c3, he, hr3, ht3⟩, m3, hT3⟩ => ?_⟩
  rw [kn1] at he hr3 hT3
  have k3 : K0 w w3 := hT3.base hTW2.z kW2 (Nat.le_refl _)
  refine ⟨_, _, _, _, he, ⟨hT3.k.size, fun _ hm => by cases hm⟩, fun n2 W3 hW3 => ?_⟩
  have kW3 : K0 w W3 := k3.trans (hW3.kk rfl)
  have hTW3 := hT3.t.k0 (hW3.kk rfl)
  refine ⟨(acassign_any hTW3 [kA] (some ⟨n2, 0, none⟩) 1 (row_lit (hW3.cells 0 rfl)) (ty_lit (hW3.cells 0 rfl)) (by decide) (by decide) (by decide)).mono fun e w4 ⟨⟨p4, c4, he, _, _⟩, m4, hT4⟩ => ?_⟩
  rw [kn2] at he hT4
  have k4 : K0 w w4 := hT4.base hTW3.z kW3 (Nat.le_refl _)
  refine ⟨_, _, _, _, he, ⟨hT4.k.size, fun _ hm => by cases hm⟩, fun n3 W4 hW4 => ?_⟩
  have kW4 : K0 w W4 := k4.trans (hW4.kk rfl)
  have hTW4 := hT4.t.k0 (hW4.kk rfl)
  refine ⟨(acassign_any hTW4 [kA] (some ⟨n3, 0, none⟩) 1 (row_lit (hW4.cells 0 rfl)) (ty_lit (hW4.cells 0 rfl)) (by decide) (by decide) (by decide)).mono fun e w5 ⟨⟨p5, c5, he, _, _⟩, m5, hT5⟩ => ?_⟩
  rw [kn3] at he hT5
  have k5 : K0 w w5 := hT5.base hTW4.z kW4 (Nat.le_refl _)
  refine ⟨_, _, _, _, he, ⟨hT5.k.size, fun _ hm => by cases hm⟩, ?_⟩
  refine ⟨(acremove_any hT5.t kA (by decide) 2 (by decide)).mono fun e w6 ⟨he, m6, hT6⟩ => ?_⟩
  rw [kn4] at he hT6
  have k6 : K0 w w6 := hT6.base hT5.t.z k5 (Nat.le_refl _)
  refine ⟨_, he, ⟨hT6.k.size, fun _ hm => by cases hm⟩, ?_⟩
  refine ⟨(acget_any hT6.t kA (by decide)).mono fun e w7 ⟨he, k67⟩ => ?_⟩
  rw [kn5] at he
  have k7 := k6.trans k67
  refine ⟨_, _, _, _, _, _, he, .of_k0 k67, fun n5 W7 hW7 => ?_⟩
  have kW7 : K0 w W7 := k7.trans (hW7.kk rfl)
  refine ⟨(acparse_any kT1 W7 (by decide) (gw_lt (gk0 hG kW7)) (gk0 hG kW7)).mono fun e w8 hP8 => ?_⟩
  rw [kn6] at hP8
  obtain ⟨⟨he, _⟩, k8⟩ := hP8
  refine ⟨_, _, _, he, .of_k0 k8, ?_⟩
  have k08 := kW7.trans k8
  refine ⟨(acparse_any kT2 w8 (by decide) (gw_lt (gk0 hG k08)) (gk0 hG k08)).mono fun e w9 hP9 => ?_⟩
  rw [kn7] at hP9
  obtain ⟨⟨b9, mb9, m9, he, hT9⟩, k9⟩ := hP9
  refine ⟨_, _, _, he, .of_k0 k9, ?_⟩
  have k09 := k08.trans k9
  have nt : ∀ {w : World} {B b mb : Nat} {m : TM} {A : TA} (h : Tq w B b mb m A) (k : Nat) (c : Array Value) (f : Nat × Nat), w.heap[k]? = some (.cells c 64 f) → ¬ Tb mb m k := fun h k c f hc => h.z.not_ty hc (by decide)
  have r1 := hr3.k0 (hW3.kk rfl)
  have t1 := ht3.k0 (hW3.kk rfl)
  have r2 := (r1.kpT t1 hT4.k (nt hTW3)).k0 (hW4.kk rfl)
  have t2 := (t1.kp hT4.k (nt hTW3)).k0 (hW4.kk rfl)
  have r3 := r2.kpT t2 hT5.k (nt hTW4)
  have t3 := t2.kp hT5.k (nt hTW4)
  have r4 := (r3.kpT t3 hT6.k (nt hT5.t)).k0 (((k67.trans (hW7.kk rfl)).trans k8).trans k9)
  obtain ⟨gb, go, hp3, hat⟩ := r4 0 (kA, 1) rfl
  rw [Nat.zero_mul, Nat.add_zero] at hat
  have hT69 := hT6.t.k0 (((k67.trans (hW7.kk rfl)).trans k8).trans k9)
  refine nn_is hp3 ⟨gimp_intro fun _ => by decide, kA, 1, gimp_intro fun _ => hat, _, gimp_intro fun _ => plEq27 kA kA 1 1, _, gimp_intro fun _ => grEq27 kA kA _ _ _ _ _ _ _ _, bsp_intro (fun _ => ?_) (fun h => ?_)⟩
  · refine ⟨(acprint_any hT69 (gk0 hG k09) (hT.k0 k09) (by decide)).mono fun e w10 ⟨he, k10⟩ => ?_⟩
    rw [kn8] at he
    have k010 := k09.trans k10
    refine ⟨_, he, .of_k0 k10, bsp_intro (fun _ => ?_) (fun h => ?_)⟩
    · exact ⟨(acequal_any (hT9.k0 k10) (hT69.k0 k10)).mono fun e w11 ⟨⟨r, he, hr⟩, k11⟩ => ⟨r, he, .of_k0 k11, by rw [hr.2 rfl]; exact ⟨rfl, k010.trans k11⟩⟩⟩
    · exact absurd h (by simp only [Option.isNone_some, Bool.not_false, Bool.and_true]; decide +kernel)
  · exact absurd h (by decide +kernel)

end Go.Proofs.YtgmmoghagpmpfaaGreatDoor

/- The formulas of functions by the symbolic evaluator, and that each gives the call's contract. Written by a program (gen.py). No condition. -/
namespace Go.Proofs.YtgmmoghagpmpfaaGreatDoor
set_option maxRecDepth 100000
set_option linter.unusedVariables false

def VC_aclnames (p : Option Addr) (n : Nat) (c : Nat) (w : World) (R : Ending → World → Prop) : Prop :=
 ∃ (I : List Value → World → Prop),
 ∃ (m : List Value → World → Nat),
 I [Value.int IntKind.i64 0, Value.slice none 0 0] w ∧
 ∀ (x : Int) (p_1 : Option Addr) (n_1 c : Nat) (w' : World),
 I [Value.int IntKind.i64 x, Value.slice p_1 n_1 c] w' →
 bsp (decide (x < (↑n : Int)) && decide (x < 4))
 (∀ (W : World),
 Loc w.heap.size [] w' W →
 ∃ (S : World → Prop),
 S W ∧
 nn true p fun (b o : Nat) =>
 (0 ≤ x ∧ x < (↑n : Int)) ∧
 ∃ (x_1 : ByteArray),
 (∀ (w' : World), S w' → w'.cell? (Addr.mk b (o + x.toNat) none) = some (Value.string x_1)) ∧
 nn true p fun (b o : Nat) =>
 (0 ≤ x ∧ x < (↑n : Int)) ∧
 ∃ (x_2 : ByteArray),
 (∀ (w' : World), S w' → w'.cell? (Addr.mk b (o + x.toNat) none) = some (Value.string x_2)) ∧
 ((0 ≤ if 100 < (↑x_2.size : Int) then 100 else (↑x_2.size : Int)) ∧
 (if 100 < (↑x_2.size : Int) then 100 else (↑x_2.size : Int)) ≤ (↑x_1.size : Int)) ∧
 ∀ (n : Nat) (w1 : World),
 NewB W
 (Obj.cells
 #[Value.string
 (x_1.extract 0 (if 100 < (↑x_2.size : Int) then 100 else (↑x_2.size : Int)).toNat)]
 9)
 n w1 →
 ∃ (base : Nat),
 ∃ (xs : List Value),
 ∃ (news : List Value),
 w1.ownsRow base 9 1 (Value.slice p_1 n_1 c) n_1 xs ∧
 news.length = 1 ∧
 SrcP w1 (some (Addr.mk n 0 none)) news ∧
 n_1 + 1 ≤ 9223372036854775807 ∧
 (n_1 + 1) * 16 ≤ 140737488355328 ∧
 base ≤ w1.heap.size ∧
 ∀ (p' : Option Addr) (c' : Nat) (w'_1 : World),
 w'_1.ownsRow base 9 1 (Value.slice p' (n_1 + 1) c') (n_1 + 1) (xs ++ news) →
 w1.grownBy w'_1 (Value.slice p_1 n_1 c).ownBlock →
 AppL w1 p_1 n_1 c 1 p' c' →
 KeptL [] W w'_1 ∧
 I [Value.int IntKind.i64 (IntKind.i64.wrap (x + 1)), Value.slice p' (n_1 + 1) c']
 w'_1 ∧
 m [Value.int IntKind.i64 (IntKind.i64.wrap (x + 1)), Value.slice p' (n_1 + 1) c']
 w'_1 <
 m [Value.int IntKind.i64 x, Value.slice p_1 n_1 c] w')
 (R (Ending.returned (Value.slice p_1 n_1 c)) w')
theorem vc_aclnames (p : Option Addr) (n : Nat) (c : Nat) (w : World) (R : Ending → World → Prop) (h : VC_aclnames p n c w R) : Calls Tryz.prog 28 ([Value.slice
    p n c] : List Value).toArray w R := by
  have e : execR2 { P := Tryz.prog, loops := [(3, [(4, Ck.int IntKind.i64), (3, Ck.slice)])], pur := pur1, tails := [(5, 12)], joins := [], boxes := [] } Tryz.f28.results.toList R (Tryz.f28.body.getD .skip) (initF [Value.slice
    p n c] (Tryz.f28.ntmps - ([Value.slice p n c] : List Value).length)) w = VC_aclnames p n c w R := by kernel_rfl
  have hb : Tryz.f28.body = some (Tryz.f28.body.getD .skip) := by kernel_rfl
  exact calls_of_exec2' (P := Tryz.prog) (fn := Tryz.f28) (c := Tryz.f28.body.getD .skip) (args := [Value.slice p n
    c]) (w := w) (R := R) pur1_ok Tryz.func28 hb e h

def VC_aclfirst (p : Option Addr) (n : Nat) (c : Nat) (w : World) (R : Ending → World → Prop) : Prop :=
 bsp ((↑n : Int) == 0) (R (Ending.returned (Value.string (ByteArray.mk #[]))) w)
 (nn true p fun (b o : Nat) =>
 ((0 : Int) ≤ 0 ∧ 0 < (↑n : Int)) ∧
 ∃ (x : ByteArray), w.cell? (Addr.mk b o none) = some (Value.string x) ∧ R (Ending.returned (Value.string x)) w)
theorem vc_aclfirst (p : Option Addr) (n : Nat) (c : Nat) (w : World) (R : Ending → World → Prop) (h : VC_aclfirst p n c w R) : Calls Tryz.prog 32 ([Value.slice
    p n c] : List Value).toArray w R := by
  have e : execR2 { P := Tryz.prog, loops := [], pur := pur1, tails := [], joins := [], boxes := [] } Tryz.f32.results.toList R (Tryz.f32.body.getD .skip) (initF [Value.slice
    p n c] (Tryz.f32.ntmps - ([Value.slice p n c] : List Value).length)) w = VC_aclfirst p n c w R := by kernel_rfl
  have hb : Tryz.f32.body = some (Tryz.f32.body.getD .skip) := by kernel_rfl
  exact calls_of_exec2' (P := Tryz.prog) (fn := Tryz.f32) (c := Tryz.f32.body.getD .skip) (args := [Value.slice p n
    c]) (w := w) (R := R) pur1_ok Tryz.func32 hb e h

def VC_aclequal (p : Option Addr) (n : Nat) (c : Nat) (q : Option Addr) (k : Nat) (d : Nat) (w : World) (R : Ending → World → Prop) : Prop :=
 bsp ((↑n : Int) != (↑k : Int)) (R (Ending.returned (Value.bool false)) w)
 (∃ (I : List Value → World → Prop),
 ∃ (m : List Value → World → Nat),
 I [Value.int IntKind.i64 0] w ∧
 ∀ (x : Int) (w' : World),
 I [Value.int IntKind.i64 x] w' →
 bsp (decide (x < (↑n : Int)))
 (nn true p fun (b o : Nat) =>
 (0 ≤ x ∧ x < (↑n : Int)) ∧
 ∃ (x_1 : Int),
 (∀ (W : World),
 Loc w.heap.size [] w' W → W.cell? (Addr.mk b (o + x.toNat) none) = some (Value.int IntKind.i64 x_1)) ∧
 nn true q fun (b o : Nat) =>
 (0 ≤ x ∧ x < (↑k : Int)) ∧
 ∃ (x_2 : Int),
 (∀ (W : World),
 Loc w.heap.size [] w' W → W.cell? (Addr.mk b (o + x.toNat) none) = some (Value.int IntKind.i64 x_2)) ∧
 bsp (x_1 != x_2) (∀ (W : World), Loc w.heap.size [] w' W → R (Ending.returned (Value.bool false)) W)
 (∀ (W : World),
 Loc w.heap.size [] w' W →
 I [Value.int IntKind.i64 (IntKind.i64.wrap (x + 1))] W ∧
 m [Value.int IntKind.i64 (IntKind.i64.wrap (x + 1))] W < m [Value.int IntKind.i64 x] w'))
 (R (Ending.returned (Value.bool true)) w'))
theorem vc_aclequal (p : Option Addr) (n : Nat) (c : Nat) (q : Option Addr) (k : Nat) (d : Nat) (w : World) (R : Ending → World → Prop) (h : VC_aclequal p n c q k d w R) : Calls Tryz.prog 39 ([Value.slice
    p n c,
  Value.slice q k d] : List Value).toArray w R := by
  have e : execR2 { P := Tryz.prog, loops := [(4, [(5, Ck.int IntKind.i64)])], pur := pur1, tails := [], joins := [], boxes := [] } Tryz.f39.results.toList R (Tryz.f39.body.getD .skip) (initF [Value.slice
    p n c,
  Value.slice q k
    d] (Tryz.f39.ntmps - ([Value.slice p n c,
  Value.slice q k d] : List Value).length)) w = VC_aclequal p n c q k d w R := by kernel_rfl
  have hb : Tryz.f39.body = some (Tryz.f39.body.getD .skip) := by kernel_rfl
  exact calls_of_exec2' (P := Tryz.prog) (fn := Tryz.f39) (c := Tryz.f39.body.getD .skip) (args := [Value.slice p n c,
  Value.slice q k d]) (w := w) (R := R) pur1_ok Tryz.func39 hb e h

def VC_acldigits (x : Int) (w : World) (R : Ending → World → Prop) : Prop :=
 ∃ (I : List Value → World → Prop),
 ∃ (m : List Value → World → Nat),
 I [Value.int IntKind.i64 x, Value.string (ByteArray.mk #[])] w ∧
 ∀ (x : Int) (x_1 : ByteArray) (w' : World),
 I [Value.int IntKind.i64 x, Value.string x_1] w' →
 bsp (decide (x > 0))
 ((0 ≤ x.tmod 10 ∧ x.tmod 10 ≤ IntKind.i64.wrap (x.tmod 10 + 1) ∧ IntKind.i64.wrap (x.tmod 10 + 1) ≤ (↑10 : Int)) ∧
 (9223372036854775807 -
 (↑(((ByteArray.mk #[48, 49, 50, 51, 52, 53, 54, 55, 56, 57]).extract (x.tmod 10).toNat
 (IntKind.i64.wrap (x.tmod 10 + 1)).toNat).size +
 x_1.size) :
 Int)).NonNeg ∧
 I
 [Value.int IntKind.i64 (IntKind.i64.wrap (x.tdiv 10)),
 Value.string
 ((ByteArray.mk #[48, 49, 50, 51, 52, 53, 54, 55, 56, 57]).extract (x.tmod 10).toNat
 (IntKind.i64.wrap (x.tmod 10 + 1)).toNat ++
 x_1)]
 w' ∧
 m
 [Value.int IntKind.i64 (IntKind.i64.wrap (x.tdiv 10)),
 Value.string
 ((ByteArray.mk #[48, 49, 50, 51, 52, 53, 54, 55, 56, 57]).extract (x.tmod 10).toNat
 (IntKind.i64.wrap (x.tmod 10 + 1)).toNat ++
 x_1)]
 w' <
 m [Value.int IntKind.i64 x, Value.string x_1] w')
 (R (Ending.returned (Value.string x_1)) w')
theorem vc_acldigits (x : Int) (w : World) (R : Ending → World → Prop) (h : VC_acldigits x w R) : Calls Tryz.prog 25 ([Value.int
    IntKind.i64 x] : List Value).toArray w R := by
  have e : execR2 { P := Tryz.prog, loops := [(2, [(0, Ck.int IntKind.i64), (3, Ck.str)])], pur := pur1, tails := [], joins := [], boxes := [] } Tryz.f25.results.toList R (Tryz.f25.body.getD .skip) (initF [Value.int
    IntKind.i64
    x] (Tryz.f25.ntmps - ([Value.int IntKind.i64 x] : List Value).length)) w = VC_acldigits x w R := by kernel_rfl
  have hb : Tryz.f25.body = some (Tryz.f25.body.getD .skip) := by kernel_rfl
  exact calls_of_exec2' (P := Tryz.prog) (fn := Tryz.f25) (c := Tryz.f25.body.getD .skip) (args := [Value.int
    IntKind.i64 x]) (w := w) (R := R) pur1_ok Tryz.func25 hb e h

def VC_aclstate (b : Nat) (p : Option Addr) (n : Nat) (c : Nat) (w : World) (R : Ending → World → Prop) : Prop :=
 CallsS Tryz.prog 18 #[Value.pointer (some (Addr.mk b 0 none))] w fun (e : Ending) (w' : World) =>
 ∃ (p_1 : Option Addr),
 ∃ (n_1 : Nat),
 ∃ (c : Nat),
 e = Ending.returned (Value.slice p_1 n_1 c) ∧
 KeptL [] w w' ∧
 bsp ((↑n_1 : Int) != (↑n : Int)) (R (Ending.returned (Value.bool false)) w')
 (∃ (I : List Value → World → Prop),
 ∃ (m : List Value → World → Nat),
 I [Value.int IntKind.i64 0] w' ∧
 ∀ (x : Int) (w' : World),
 I [Value.int IntKind.i64 x] w' →
 bsp (decide (x < (↑n : Int)))
 (nn true p fun (b_1 o : Nat) =>
 (0 ≤ x ∧ x < (↑n : Int)) ∧
 ∃ (x_1 : ByteArray),
 w'.cell? (Addr.mk b_1 (o + x.toNat * 4) none) = some (Value.string x_1) ∧
 CallsS Tryz.prog 16 #[Value.pointer (some (Addr.mk b 0 none)), Value.string x_1] w'
 fun (e : Ending) (w'_1 : World) =>
 ∃ (x_2 : ByteArray),
 ∃ (x_3 : Int),
 ∃ (x_4 : Int),
 ∃ (x_5 : Int),
 ∃ (x_6 : Bool),
 ∃ (x_7 : Int),
 e =
 Ending.returned
 (Value.tuple
 #[Value.agg
 #[Value.string x_2, Value.int IntKind.i64 x_3, Value.int IntKind.i64 x_4,
 Value.int IntKind.i64 x_5, Value.bool x_6],
 Value.int IntKind.i64 x_7]) ∧
 KeptL [] w' w'_1 ∧
 ∀ (n_2 : Nat) (W : World),
 Loc w.heap.size
 [Blk.mk n_2 31
 [Value.string x_2, Value.int IntKind.i64 x_3, Value.int IntKind.i64 x_4,
 Value.int IntKind.i64 x_5, Value.bool x_6]
 (wrM 2)]
 w'_1 W →
 ∃ (S : World → Prop),
 S W ∧
 nn true p_1 fun (b o : Nat) =>
 (0 ≤ x ∧ x < (↑n_1 : Int)) ∧
 ∃ (x_8 : ByteArray),
 (∀ (w' : World),
 S w' → w'.cell? (Addr.mk b (o + x.toNat) none) = some (Value.string x_8)) ∧
 nn true p fun (b o : Nat) =>
 (0 ≤ x ∧ x < (↑n : Int)) ∧
 ∃ (x_9 : ByteArray),
 (∀ (w' : World),
 S w' → w'.cell? (Addr.mk b (o + x.toNat * 4) none) = some (Value.string x_9)) ∧
 ∃ (x_10 : ByteArray),
 ∃ (x_11 : Int),
 ∃ (x_12 : Int),
 ∃ (x_13 : Int),
 ∃ (x_14 : Bool),
 gimp (!(!x_8.toList == x_9.toList || x_7 != 0))
 (∀ (w' : World),
 S w' →
 AtL w' n_2 0
 [Value.string x_10, Value.int IntKind.i64 x_11,
 Value.int IntKind.i64 x_12, Value.int IntKind.i64 x_13,
 Value.bool x_14]) ∧
 nn (!(!x_8.toList == x_9.toList || x_7 != 0)) p fun (b o : Nat) =>
 gimp (!(!x_8.toList == x_9.toList || x_7 != 0)) (0 ≤ x ∧ x < (↑n : Int)) ∧
 ∃ (x_15 : ByteArray),
 gimp (!(!x_8.toList == x_9.toList || x_7 != 0))
 (∀ (w' : World),
 S w' →
 w'.cell? (Addr.mk b (o + x.toNat * 4) none) =
 some (Value.string x_15)) ∧
 nn (!(!x_8.toList == x_9.toList || x_7 != 0)) p fun (b o : Nat) =>
 gimp (!(!x_8.toList == x_9.toList || x_7 != 0))
 (0 ≤ x ∧ x < (↑n : Int)) ∧
 ∃ (x_16 : ByteArray),
 ∃ (x_17 : Int),
 ∃ (p_2 : Option Addr),
 ∃ (n_3 : Nat),
 ∃ (c : Nat),
 ∃ (x_18 : Bool),
 gimp (!(!x_8.toList == x_9.toList || x_7 != 0))
 (∀ (w' : World),
 S w' →
 AtL w' b (o + x.toNat * 4)
 [Value.string x_16, Value.int IntKind.i64 x_17,
 Value.slice p_2 n_3 c, Value.bool x_18]) ∧
 nn (!(!x_8.toList == x_9.toList || x_7 != 0)) p
 fun (b o : Nat) =>
 gimp (!(!x_8.toList == x_9.toList || x_7 != 0))
 (0 ≤ x ∧ x < (↑n : Int)) ∧
 ∃ (x_19 : Int),
 gimp (!(!x_8.toList == x_9.toList || x_7 != 0))
 (∀ (w' : World),
 S w' →
 w'.cell? (Addr.mk b (o + x.toNat * 4 + 1) none) =
 some (Value.int IntKind.i64 x_19)) ∧
 nn (!(!x_8.toList == x_9.toList || x_7 != 0)) p
 fun (b o : Nat) =>
 gimp (!(!x_8.toList == x_9.toList || x_7 != 0))
 (0 ≤ x ∧ x < (↑n : Int)) ∧
 ∃ (p_3 : Option Addr),
 ∃ (n_4 : Nat),
 ∃ (c_1 : Nat),
 gimp (!(!x_8.toList == x_9.toList || x_7 != 0))
 (∀ (w' : World),
 S w' →
 w'.cell? (Addr.mk b (o + x.toNat * 4 + 2) none) =
 some (Value.slice p_3 n_4 c_1)) ∧
 nn (!(!x_8.toList == x_9.toList || x_7 != 0)) p
 fun (b o : Nat) =>
 gimp (!(!x_8.toList == x_9.toList || x_7 != 0))
 (0 ≤ x ∧ x < (↑n : Int)) ∧
 ∃ (x_20 : Bool),
 gimp (!(!x_8.toList == x_9.toList || x_7 != 0))
 (∀ (w' : World),
 S w' →
 w'.cell?
 (Addr.mk b (o + x.toNat * 4 + 3) none) =
 some (Value.bool x_20)) ∧
 bsp (!(!x_8.toList == x_9.toList || x_7 != 0))
 (CallsS Tryz.prog 56
 #[Value.agg
 #[Value.string x_16,
 Value.int IntKind.i64 x_17,
 Value.slice p_2 n_3 c, Value.bool x_18]]
 W fun (e : Ending) (w'_2 : World) =>
 ∃ (x_21 : Int),
 e =
 Ending.returned
 (Value.int IntKind.i64 x_21) ∧
 S w'_2 ∧
 ∃ (r : Bool),
 EqP Tryz.prog 31
 (Value.agg
 #[Value.string x_10,
 Value.int IntKind.i64 x_11,
 Value.int IntKind.i64 x_12,
 Value.int IntKind.i64 x_13,
 Value.bool x_14])
 (Value.agg
 #[Value.string x_15,
 Value.int IntKind.i64 x_21,
 Value.int IntKind.i64 x_19,
 Value.int IntKind.i64 (↑n_4 : Int),
 Value.bool x_20])
 r ∧
 KeptL [n_2] W w'_2 ∧
 bsp (false || !r)
 (R (Ending.returned (Value.bool false))
 w'_2)
 (I
 [Value.int IntKind.i64
 (IntKind.i64.wrap (x + 1))]
 w'_2 ∧
 m
 [Value.int IntKind.i64
 (IntKind.i64.wrap (x + 1))]
 w'_2 <
 m [Value.int IntKind.i64 x] w'))
 (S W ∧
 KeptL [n_2] W W ∧
 R (Ending.returned (Value.bool false)) W))
 (R (Ending.returned (Value.bool true)) w'))
theorem vc_aclstate (b : Nat) (p : Option Addr) (n : Nat) (c : Nat) (w : World) (R : Ending → World → Prop) (h : VC_aclstate b p n c w R) : Calls Tryz.prog 21 ([Value.pointer
    (some { block := b, off := 0 }),
  Value.slice p n c] : List Value).toArray w R := by
  have e : execR2 { P := Tryz.prog, loops := [(5, [(6, Ck.int IntKind.i64)])], pur := pur1, tails := [(8, 25)], joins := [], boxes := [] } Tryz.f21.results.toList R (Tryz.f21.body.getD .skip) (initF [Value.pointer
    (some { block := b, off := 0 }),
  Value.slice p n
    c] (Tryz.f21.ntmps - ([Value.pointer (some { block := b, off := 0 }),
  Value.slice p n c] : List Value).length)) w = VC_aclstate b p n c w R := by kernel_rfl
  have hb : Tryz.f21.body = some (Tryz.f21.body.getD .skip) := by kernel_rfl
  exact calls_of_exec2' (P := Tryz.prog) (fn := Tryz.f21) (c := Tryz.f21.body.getD .skip) (args := [Value.pointer
    (some { block := b, off := 0 }),
  Value.slice p n c]) (w := w) (R := R) pur1_ok Tryz.func21 hb e h

def VC_aclplay (p : Option Addr) (n : Nat) (c : Nat) (w : World) (R : Ending → World → Prop) : Prop :=
 CallsS Tryz.prog 19 #[] w fun (e : Ending) (w' : World) =>
 ∃ (x : Option Addr),
 e = Ending.returned (Value.pointer x) ∧
 KeptL [] w w' ∧
 ∃ (I : List Value → World → Prop),
 ∃ (m : List Value → World → Nat),
 I [Value.int IntKind.i64 0, Value.slice none 0 0] w' ∧
 ∀ (x_1 : Int) (p_1 : Option Addr) (n_1 c : Nat) (w' : World),
 I [Value.int IntKind.i64 x_1, Value.slice p_1 n_1 c] w' →
 bsp (decide (x_1 < (↑n : Int)) && decide (x_1 < 40))
 (nn true p fun (b o : Nat) =>
 (0 ≤ x_1 ∧ x_1 < (↑n : Int)) ∧
 ∃ (x_2 : Int),
 ∃ (p : Option Addr),
 ∃ (n : Nat),
 ∃ (c_1 : Nat),
 ∃ (x_3 : Int),
 AtL w' b (o + x_1.toNat * 3)
 [Value.int IntKind.u8 x_2, Value.slice p n c_1, Value.int IntKind.i64 x_3] ∧
 CallsS Tryz.prog 20
 #[Value.pointer x, Value.slice p_1 n_1 c,
 Value.agg #[Value.int IntKind.u8 x_2, Value.slice p n c_1, Value.int IntKind.i64 x_3]]
 w' fun (e : Ending) (w'_1 : World) =>
 ∃ (p : Option Addr),
 ∃ (n : Nat),
 ∃ (c_2 : Nat),
 ∃ (x_4 : Bool),
 e = Ending.returned (Value.tuple #[Value.slice p n c_2, Value.bool x_4]) ∧
 KeptL [] w' w'_1 ∧
 bsp (!x_4)
 (R (Ending.returned (Value.tuple #[Value.pointer x, Value.slice p n c_2, Value.bool false]))
 w'_1)
 (I [Value.int IntKind.i64 (IntKind.i64.wrap (x_1 + 1)), Value.slice p n c_2] w'_1 ∧
 m [Value.int IntKind.i64 (IntKind.i64.wrap (x_1 + 1)), Value.slice p n c_2] w'_1 <
 m [Value.int IntKind.i64 x_1, Value.slice p_1 n_1 c] w'))
 (R (Ending.returned (Value.tuple #[Value.pointer x, Value.slice p_1 n_1 c, Value.bool true])) w')
theorem vc_aclplay (p : Option Addr) (n : Nat) (c : Nat) (w : World) (R : Ending → World → Prop) (h : VC_aclplay p n c w R) : Calls Tryz.prog 22 ([Value.slice
    p n c] : List Value).toArray w R := by
  have e : execR2 { P := Tryz.prog, loops := [(4, [(7, Ck.int IntKind.i64), (6, Ck.slice)])], pur := pur1, tails := [], joins := [], boxes := [] } Tryz.f22.results.toList R (Tryz.f22.body.getD .skip) (initF [Value.slice
    p n c] (Tryz.f22.ntmps - ([Value.slice p n c] : List Value).length)) w = VC_aclplay p n c w R := by kernel_rfl
  have hb : Tryz.f22.body = some (Tryz.f22.body.getD .skip) := by kernel_rfl
  exact calls_of_exec2' (P := Tryz.prog) (fn := Tryz.f22) (c := Tryz.f22.body.getD .skip) (args := [Value.slice p n
    c]) (w := w) (R := R) pur1_ok Tryz.func22 hb e h

end Go.Proofs.YtgmmoghagpmpfaaGreatDoor

/- The formulas of functions by the symbolic evaluator, and that each gives the call's contract. Written by a program (gen.py). No condition. -/
namespace Go.Proofs.YtgmmoghagpmpfaaGreatDoor
set_option maxRecDepth 100000
set_option linter.unusedVariables false

def VC_acldo (b : Nat) (p : Option Addr) (n : Nat) (c : Nat) (k : Int) (q : Option Addr) (m : Nat) (d : Nat) (a : Int) (w : World) (R : Ending → World → Prop) : Prop :=
 ∀ (n_1 : Nat) (W : World),
 Loc w.heap.size [Blk.mk n_1 50 [Value.int IntKind.u8 k, Value.slice q m d, Value.int IntKind.i64 a] 2] w W →
 CallsS Tryz.prog 28 #[Value.slice q m d] W fun (e : Ending) (w' : World) =>
 ∃ (p_1 : Option Addr),
 ∃ (n_2 : Nat),
 ∃ (c_1 : Nat),
 e = Ending.returned (Value.slice p_1 n_2 c_1) ∧
 KeptL [n_1] W w' ∧
 bsp (k.tmod 8 == 0)
 (CallsS Tryz.prog 32 #[Value.slice p_1 n_2 c_1] w' fun (e : Ending) (w'_1 : World) =>
 ∃ (x : ByteArray),
 e = Ending.returned (Value.string x) ∧
 KeptL [n_1] w' w'_1 ∧
 CallsS Tryz.prog 53 #[Value.slice p n c, Value.string x] w'_1 fun (e : Ending) (w' : World) =>
 ∃ (p : Option Addr),
 ∃ (n : Nat),
 ∃ (c : Nat),
 ∃ (x : Int),
 e = Ending.returned (Value.tuple #[Value.slice p n c, Value.int IntKind.i64 x]) ∧
 KeptL [n_1] w'_1 w' ∧
 CallsS Tryz.prog 32 #[Value.slice p_1 n_2 c_1] w' fun (e : Ending) (w'_2 : World) =>
 ∃ (x_1 : ByteArray),
 e = Ending.returned (Value.string x_1) ∧
 KeptL [n_1] w' w'_2 ∧
 CallsS Tryz.prog 31 #[Value.pointer (some (Addr.mk b 0 none)), Value.string x_1] w'_2
 fun (e : Ending) (w' : World) =>
 ∃ (x_2 : Int),
 e = Ending.returned (Value.int IntKind.i64 x_2) ∧
 KeptL [n_1] w'_2 w' ∧
 R (Ending.returned (Value.tuple #[Value.slice p n c, Value.bool (x_2 == x)])) w')
 (bsp (k.tmod 8 == 1)
 (CallsS Tryz.prog 32 #[Value.slice p_1 n_2 c_1] w' fun (e : Ending) (w'_1 : World) =>
 ∃ (x : ByteArray),
 e = Ending.returned (Value.string x) ∧
 KeptL [n_1] w' w'_1 ∧
 CallsS Tryz.prog 54 #[Value.slice p n c, Value.string x] w'_1 fun (e : Ending) (w' : World) =>
 ∃ (p : Option Addr),
 ∃ (n : Nat),
 ∃ (c : Nat),
 ∃ (x : Int),
 e = Ending.returned (Value.tuple #[Value.slice p n c, Value.int IntKind.i64 x]) ∧
 KeptL [n_1] w'_1 w' ∧
 CallsS Tryz.prog 32 #[Value.slice p_1 n_2 c_1] w' fun (e : Ending) (w'_2 : World) =>
 ∃ (x_1 : ByteArray),
 e = Ending.returned (Value.string x_1) ∧
 KeptL [n_1] w' w'_2 ∧
 CallsS Tryz.prog 26 #[Value.pointer (some (Addr.mk b 0 none)), Value.string x_1] w'_2
 fun (e : Ending) (w' : World) =>
 ∃ (x_2 : Int),
 e = Ending.returned (Value.int IntKind.i64 x_2) ∧
 KeptL [n_1] w'_2 w' ∧
 R (Ending.returned (Value.tuple #[Value.slice p n c, Value.bool (x_2 == x)])) w')
 (bsp (k.tmod 8 == 6)
 (bsp (k.tmod 8 == 6)
 (∀ (W : World),
 Loc w.heap.size [Blk.mk n_1 50 [Value.int IntKind.u8 k, Value.slice q m d, Value.int IntKind.i64 a] 0] w'
 W →
 ∃ (S : World → Prop),
 S W ∧
 ∃ (x : Int),
 (∀ (w' : World), S w' → w'.cell? (Addr.mk n_1 (0 + 2) none) = some (Value.int IntKind.i64 x)) ∧
 CallsS Tryz.prog 32 #[Value.slice p_1 n_2 c_1] W fun (e : Ending) (w' : World) =>
 ∃ (x_1 : ByteArray),
 e = Ending.returned (Value.string x_1) ∧
 S w' ∧
 CallsS Tryz.prog 55 #[Value.slice p n c, Value.string x_1, Value.int IntKind.i64 x] w'
 fun (e : Ending) (w' : World) =>
 ∃ (p : Option Addr),
 ∃ (n : Nat),
 ∃ (c : Nat),
 ∃ (x : Int),
 e = Ending.returned (Value.tuple #[Value.slice p n c, Value.int IntKind.i64 x]) ∧
 KeptL [n_1] W w' ∧
 ∀ (W : World),
 Loc w.heap.size
 [Blk.mk n_1 50 [Value.int IntKind.u8 k, Value.slice q m d, Value.int IntKind.i64 a] 0]
 w' W →
 ∃ (S : World → Prop),
 S W ∧
 ∃ (x_2 : Int),
 (∀ (w' : World),
 S w' → w'.cell? (Addr.mk n_1 (0 + 2) none) = some (Value.int IntKind.i64 x_2)) ∧
 CallsS Tryz.prog 32 #[Value.slice p_1 n_2 c_1] W fun (e : Ending) (w' : World) =>
 ∃ (x_3 : ByteArray),
 e = Ending.returned (Value.string x_3) ∧
 S w' ∧
 CallsS Tryz.prog 33
 #[Value.pointer (some (Addr.mk b 0 none)),
 Value.agg #[Value.string x_3, Value.int IntKind.i64 x_2]]
 w' fun (e : Ending) (w' : World) =>
 ∃ (x_4 : Int),
 e = Ending.returned (Value.int IntKind.i64 x_4) ∧
 KeptL [n_1] W w' ∧
 R (Ending.returned (Value.tuple #[Value.slice p n c, Value.bool (x_4 == x)]))
 w')
 (CallsS Tryz.prog 29 #[Value.slice p n c, Value.slice p_1 n_2 c_1] w' fun (e : Ending) (w'_1 : World) =>
 ∃ (p : Option Addr),
 ∃ (n : Nat),
 ∃ (c : Nat),
 ∃ (p_2 : Option Addr),
 ∃ (n_3 : Nat),
 ∃ (c_2 : Nat),
 ∃ (x : Int),
 e =
 Ending.returned
 (Value.tuple #[Value.slice p n c, Value.slice p_2 n_3 c_2, Value.int IntKind.i64 x]) ∧
 KeptL [n_1] w' w'_1 ∧
 CallsS Tryz.prog 27 #[Value.pointer (some (Addr.mk b 0 none)), Value.slice p_1 n_2 c_1] w'_1
 fun (e : Ending) (w' : World) =>
 ∃ (p_3 : Option Addr),
 ∃ (n_4 : Nat),
 ∃ (c_3 : Nat),
 ∃ (x_1 : Int),
 e = Ending.returned (Value.tuple #[Value.slice p_3 n_4 c_3, Value.int IntKind.i64 x_1]) ∧
 KeptL [n_1] w'_1 w' ∧
 bsp (x_1 != x || (↑n_4 : Int) != (↑n_3 : Int))
 (R (Ending.returned (Value.tuple #[Value.slice p n c, Value.bool false])) w')
 (∃ (I : List Value → World → Prop),
 ∃ (m_1 : List Value → World → Nat),
 I [Value.int IntKind.i64 0] w' ∧
 ∀ (x : Int) (w' : World),
 I [Value.int IntKind.i64 x] w' →
 Loc w.heap.size
 [Blk.mk n_1 50 [Value.int IntKind.u8 k, Value.slice q m d, Value.int IntKind.i64 a]
 0]
 w' w' →
 bsp (decide (x < (↑n_4 : Int)))
 (nn true p_3 fun (b o : Nat) =>
 (0 ≤ x ∧ x < (↑n_4 : Int)) ∧
 ∃ (x_2 : ByteArray),
 ∃ (x_3 : Int),
 (∀ (W : World),
 Loc w.heap.size
 [Blk.mk n_1 50
 [Value.int IntKind.u8 k, Value.slice q m d, Value.int IntKind.i64 a] 0]
 w' W →
 AtL W b (o + x.toNat * 2) [Value.string x_2, Value.int IntKind.i64 x_3]) ∧
 nn true p_1 fun (b o : Nat) =>
 (0 ≤ x ∧ x < (↑n_2 : Int)) ∧
 ∃ (x_4 : ByteArray),
 (∀ (W : World),
 Loc w.heap.size
 [Blk.mk n_1 50
 [Value.int IntKind.u8 k, Value.slice q m d, Value.int IntKind.i64 a]
 0]
 w' W →
 W.cell? (Addr.mk b (o + x.toNat) none) = some (Value.string x_4)) ∧
 nn true p_2 fun (b o : Nat) =>
 (0 ≤ x ∧ x < (↑n_3 : Int)) ∧
 ∃ (x_5 : Int),
 (∀ (W : World),
 Loc w.heap.size
 [Blk.mk n_1 50
 [Value.int IntKind.u8 k, Value.slice q m d,
 Value.int IntKind.i64 a]
 0]
 w' W →
 W.cell? (Addr.mk b (o + x.toNat) none) =
 some (Value.int IntKind.i64 x_5)) ∧
 ∃ (r : Bool),
 EqP Tryz.prog 64
 (Value.agg #[Value.string x_2, Value.int IntKind.i64 x_3])
 (Value.agg #[Value.string x_4, Value.int IntKind.i64 x_5]) r ∧
 bsp (!r)
 (∀ (W : World),
 Loc w.heap.size
 [Blk.mk n_1 50
 [Value.int IntKind.u8 k, Value.slice q m d,
 Value.int IntKind.i64 a]
 0]
 w' W →
 R
 (Ending.returned
 (Value.tuple #[Value.slice p n c, Value.bool false]))
 W)
 (∀ (W : World),
 Loc w.heap.size
 [Blk.mk n_1 50
 [Value.int IntKind.u8 k, Value.slice q m d,
 Value.int IntKind.i64 a]
 0]
 w' W →
 I [Value.int IntKind.i64 (IntKind.i64.wrap (x + 1))] W ∧
 m_1 [Value.int IntKind.i64 (IntKind.i64.wrap (x + 1))] W <
 m_1 [Value.int IntKind.i64 x] w'))
 (R (Ending.returned (Value.tuple #[Value.slice p n c, Value.bool true])) w'))))
 (bsp (k.tmod 8 == 7)
 (∀ (W : World),
 Loc w.heap.size [Blk.mk n_1 50 [Value.int IntKind.u8 k, Value.slice q m d, Value.int IntKind.i64 a] 0] w'
 W →
 ∃ (S : World → Prop),
 S W ∧
 ∃ (x : Int),
 (∀ (w' : World), S w' → w'.cell? (Addr.mk n_1 (0 + 2) none) = some (Value.int IntKind.i64 x)) ∧
 CallsS Tryz.prog 32 #[Value.slice p_1 n_2 c_1] W fun (e : Ending) (w' : World) =>
 ∃ (x_1 : ByteArray),
 e = Ending.returned (Value.string x_1) ∧
 S w' ∧
 CallsS Tryz.prog 55 #[Value.slice p n c, Value.string x_1, Value.int IntKind.i64 x] w'
 fun (e : Ending) (w' : World) =>
 ∃ (p : Option Addr),
 ∃ (n : Nat),
 ∃ (c : Nat),
 ∃ (x : Int),
 e = Ending.returned (Value.tuple #[Value.slice p n c, Value.int IntKind.i64 x]) ∧
 KeptL [n_1] W w' ∧
 ∀ (W : World),
 Loc w.heap.size
 [Blk.mk n_1 50 [Value.int IntKind.u8 k, Value.slice q m d, Value.int IntKind.i64 a] 0]
 w' W →
 ∃ (S : World → Prop),
 S W ∧
 ∃ (x_2 : Int),
 (∀ (w' : World),
 S w' → w'.cell? (Addr.mk n_1 (0 + 2) none) = some (Value.int IntKind.i64 x_2)) ∧
 CallsS Tryz.prog 32 #[Value.slice p_1 n_2 c_1] W fun (e : Ending) (w' : World) =>
 ∃ (x_3 : ByteArray),
 e = Ending.returned (Value.string x_3) ∧
 S w' ∧
 CallsS Tryz.prog 33
 #[Value.pointer (some (Addr.mk b 0 none)),
 Value.agg #[Value.string x_3, Value.int IntKind.i64 x_2]]
 w' fun (e : Ending) (w' : World) =>
 ∃ (x_4 : Int),
 e = Ending.returned (Value.int IntKind.i64 x_4) ∧
 KeptL [n_1] W w' ∧
 R (Ending.returned (Value.tuple #[Value.slice p n c, Value.bool (x_4 == x)]))
 w')
 (CallsS Tryz.prog 29 #[Value.slice p n c, Value.slice p_1 n_2 c_1] w' fun (e : Ending) (w'_1 : World) =>
 ∃ (p : Option Addr),
 ∃ (n : Nat),
 ∃ (c : Nat),
 ∃ (p_2 : Option Addr),
 ∃ (n_3 : Nat),
 ∃ (c_2 : Nat),
 ∃ (x : Int),
 e =
 Ending.returned
 (Value.tuple #[Value.slice p n c, Value.slice p_2 n_3 c_2, Value.int IntKind.i64 x]) ∧
 KeptL [n_1] w' w'_1 ∧
 CallsS Tryz.prog 27 #[Value.pointer (some (Addr.mk b 0 none)), Value.slice p_1 n_2 c_1] w'_1
 fun (e : Ending) (w' : World) =>
 ∃ (p_3 : Option Addr),
 ∃ (n_4 : Nat),
 ∃ (c_3 : Nat),
 ∃ (x_1 : Int),
 e = Ending.returned (Value.tuple #[Value.slice p_3 n_4 c_3, Value.int IntKind.i64 x_1]) ∧
 KeptL [n_1] w'_1 w' ∧
 bsp (x_1 != x || (↑n_4 : Int) != (↑n_3 : Int))
 (R (Ending.returned (Value.tuple #[Value.slice p n c, Value.bool false])) w')
 (∃ (I : List Value → World → Prop),
 ∃ (m_1 : List Value → World → Nat),
 I [Value.int IntKind.i64 0] w' ∧
 ∀ (x : Int) (w' : World),
 I [Value.int IntKind.i64 x] w' →
 Loc w.heap.size
 [Blk.mk n_1 50 [Value.int IntKind.u8 k, Value.slice q m d, Value.int IntKind.i64 a]
 0]
 w' w' →
 bsp (decide (x < (↑n_4 : Int)))
 (nn true p_3 fun (b o : Nat) =>
 (0 ≤ x ∧ x < (↑n_4 : Int)) ∧
 ∃ (x_2 : ByteArray),
 ∃ (x_3 : Int),
 (∀ (W : World),
 Loc w.heap.size
 [Blk.mk n_1 50
 [Value.int IntKind.u8 k, Value.slice q m d, Value.int IntKind.i64 a] 0]
 w' W →
 AtL W b (o + x.toNat * 2) [Value.string x_2, Value.int IntKind.i64 x_3]) ∧
 nn true p_1 fun (b o : Nat) =>
 (0 ≤ x ∧ x < (↑n_2 : Int)) ∧
 ∃ (x_4 : ByteArray),
 (∀ (W : World),
 Loc w.heap.size
 [Blk.mk n_1 50
 [Value.int IntKind.u8 k, Value.slice q m d, Value.int IntKind.i64 a]
 0]
 w' W →
 W.cell? (Addr.mk b (o + x.toNat) none) = some (Value.string x_4)) ∧
 nn true p_2 fun (b o : Nat) =>
 (0 ≤ x ∧ x < (↑n_3 : Int)) ∧
 ∃ (x_5 : Int),
 (∀ (W : World),
 Loc w.heap.size
 [Blk.mk n_1 50
 [Value.int IntKind.u8 k, Value.slice q m d,
 Value.int IntKind.i64 a]
 0]
 w' W →
 W.cell? (Addr.mk b (o + x.toNat) none) =
 some (Value.int IntKind.i64 x_5)) ∧
 ∃ (r : Bool),
 EqP Tryz.prog 64
 (Value.agg #[Value.string x_2, Value.int IntKind.i64 x_3])
 (Value.agg #[Value.string x_4, Value.int IntKind.i64 x_5]) r ∧
 bsp (!r)
 (∀ (W : World),
 Loc w.heap.size
 [Blk.mk n_1 50
 [Value.int IntKind.u8 k, Value.slice q m d,
 Value.int IntKind.i64 a]
 0]
 w' W →
 R
 (Ending.returned
 (Value.tuple #[Value.slice p n c, Value.bool false]))
 W)
 (∀ (W : World),
 Loc w.heap.size
 [Blk.mk n_1 50
 [Value.int IntKind.u8 k, Value.slice q m d,
 Value.int IntKind.i64 a]
 0]
 w' W →
 I [Value.int IntKind.i64 (IntKind.i64.wrap (x + 1))] W ∧
 m_1 [Value.int IntKind.i64 (IntKind.i64.wrap (x + 1))] W <
 m_1 [Value.int IntKind.i64 x] w'))
 (R (Ending.returned (Value.tuple #[Value.slice p n c, Value.bool true])) w'))))))
theorem vc_acldo (b : Nat) (p : Option Addr) (n : Nat) (c : Nat) (k : Int) (q : Option Addr) (m : Nat) (d : Nat) (a : Int) (w : World) (R : Ending → World → Prop) (h : VC_acldo b p n c k q m d a w R) : Calls Tryz.prog 20 ([Value.pointer
    (some { block := b, off := 0 }),
  Value.slice p n c,
  Value.agg #[Value.int IntKind.u8 k, Value.slice q m d, Value.int IntKind.i64 a]] : List Value).toArray w R := by
  have e : execR2 { P := Tryz.prog, loops := [(18, [(20, Ck.int IntKind.i64)])], pur := pur1, tails := [(11, 2), (12, 3)], joins := [], boxes := [] } Tryz.f20.results.toList R (Tryz.f20.body.getD .skip) (initF [Value.pointer
    (some { block := b, off := 0 }),
  Value.slice p n c,
  Value.agg
    #[Value.int IntKind.u8 k, Value.slice q m d,
      Value.int IntKind.i64
        a]] (Tryz.f20.ntmps - ([Value.pointer (some { block := b, off := 0 }), Value.slice p n c,
  Value.agg
    #[Value.int IntKind.u8 k, Value.slice q m d,
      Value.int IntKind.i64 a]] : List Value).length)) w = VC_acldo b p n c k q m d a w R := by kernel_rfl
  have hb : Tryz.f20.body = some (Tryz.f20.body.getD .skip) := by kernel_rfl
  exact calls_of_exec2' (P := Tryz.prog) (fn := Tryz.f20) (c := Tryz.f20.body.getD .skip) (args := [Value.pointer
    (some { block := b, off := 0 }),
  Value.slice p n c,
  Value.agg
    #[Value.int IntKind.u8 k, Value.slice q m d, Value.int IntKind.i64 a]]) (w := w) (R := R) pur1_ok Tryz.func20 hb e h

end Go.Proofs.YtgmmoghagpmpfaaGreatDoor

/- Chapter 27: the law's names, first, do: an operation on the module's table and on the reference's. The library's variable MaxLen holds a number. -/
namespace Go.Proofs.YtgmmoghagpmpfaaGreatDoor
open Go.RowKit Go.Sort Go.Maps

/-- At most 4 names of at most 100 bytes. -/
def nmL (l : List ByteArray) : List ByteArray := (l.take 4).map fun s => s.extract 0 (if (100 : Int) < (s.size : Int) then 100 else (s.size : Int)).toNat
theorem nmL_len (l : List ByteArray) : (nmL l).length ≤ 4 := by unfold nmL; rw [List.length_map, List.length_take]; omega
theorem nmL_size {l : List ByteArray} {s : ByteArray} (h : s ∈ nmL l) : s.size ≤ 100 := by
  obtain ⟨t, _, rfl⟩ := List.mem_map.1 h
  rw [ByteArray.size_extract]
  split <;> omega
theorem fst_size {l : List ByteArray} : (fstL (nmL l)).size ≤ 100 := by
  unfold fstL
  cases h : nmL l with
  | nil => decide
  | cons x r => exact nmL_size (l := l) (by rw [h]; exact List.mem_cons_self)
theorem fst_mem {l : List ByteArray} {s : ByteArray} (h : l[0]? = some s) : fstL l = s := by
  cases l with
  | nil => cases h
  | cons x r => simpa [fstL] using h
section
variable {w : World} {B b mb : Nat} {m : TM} {A : TA}
set_option maxHeartbeats 1000000 in
theorem aclnames_any (l : List ByteArray) (p : Option Addr) (c : Nat) (w : World) (hS : StrP w p l) (hl : l.length ≤ 4611686018427387904) :
    Calls Tryz.prog 28 #[.slice p l.length c] w fun e w' => (∃ p' c', e = .returned (.slice p' (nmL l).length c') ∧ w'.ownsRow w.heap.size 9 1 (.slice p' (nmL l).length c') (nmL l).length ((nmL l).map .string)) ∧ K0 w w' := by
  refine vc_aclnames p l.length c w _ ⟨fun vs w' => ∃ (i : Nat) (q : Option Addr) (d : Nat), vs = [.int .i64 (i : Int), .slice q (nmL (l.take i)).length d] ∧ i ≤ l.length ∧ i ≤ 4 ∧ w'.ownsRow w.heap.size 9 1 (.slice q (nmL (l.take i)).length d) (nmL (l.take i)).length ((nmL (l.take i)).map .string) ∧ K0 w w',
    fun vs _ => (match vs with | .int _ a :: _ => l.length - a.toNat | _ => 0), ⟨0, none, 0, rfl, by omega, by omega, World.ownsRow_nil _ _ _ _, .refl _ _⟩, ?_⟩
  rintro xi p1 n1 c1 w1 ⟨i, q, d, hv, hi, hi4, ho, k1⟩
  simp only [List.cons.injEq, Value.int.injEq, Value.slice.injEq, true_and, and_true] at hv
  obtain ⟨rfl, rfl, rfl, rfl⟩ := hv
  have hnl := nmL_len (l.take i)
  refine bsp_intro (fun hlt W hW => ?_) (fun hge => ?_)
  · have hlt : i < l.length ∧ i < 4 := by simp at hlt; omega
    have kW : K0 w1 W := hW.kk rfl
    obtain ⟨s, sb, so, hs, hp, hcs⟩ := ((hS.k0 k1).k0 kW).get hlt.1
    rw [Int.toNat_natCast]
    have hsn : nmL (l.take (i + 1)) = nmL (l.take i) ++ [s.extract 0 (if (100 : Int) < (s.size : Int) then 100 else (s.size : Int)).toNat] := by
      unfold nmL
      rw [List.take_take, List.take_take, Nat.min_eq_right (by omega), Nat.min_eq_right (by omega), take_snoc hs, List.map_append]
      rfl
    refine ⟨fun w' => K0 W w', .refl _ _, nn_is hp ⟨⟨by omega, by omega⟩, s, fun w' k => k.cell' hcs (fun h => h), nn_is hp ⟨⟨by omega, by omega⟩, s, fun w' k => k.cell' hcs (fun h => h), ⟨by split <;> omega, by split <;> omega⟩, fun n2 w2 h2 => ?_⟩⟩⟩
    have k2 : K0 W w2 := h2.kp _
    have ho2 := owns_kp ho (kW.trans k2) (fun _ _ h => h)
    refine ⟨_, _, _, ho2, rfl, src_block h2.block (fun u hu => by simp at hu; rw [hu]; rfl), by omega, by omega, ((k1.trans kW).trans k2).size, fun p' c' w3 ho3 hg3 _ => ?_⟩
    have kg := kp_grown hg3
    have k3 : K0 w w3 := ((k1.trans kW).trans k2).fresh kg (fun j hj e => by have := own_ge ho2 e; omega)
    rw [inc64 (by omega)]
    refine ⟨⟨Nat.le_trans k2.size kg.size, fun _ hm => by cases hm⟩, ⟨i + 1, p', c', by rw [hsn]; simp, by omega, by omega, ?_, k3⟩, by simp only [Int.toNat_natCast]; omega⟩
    rw [hsn, List.length_append, List.map_append]
    exact ho3
  · have hge : l.length ≤ i ∨ 4 ≤ i := by simp at hge; omega
    have e : nmL (l.take i) = nmL l := by
      unfold nmL
      rw [List.take_take]
      rcases hge with h | h
      · have : i = l.length := by omega
        subst this
        rw [Nat.min_eq_right (by omega), List.take_length, List.take_of_length_le (by omega)]
      · rw [Nat.min_eq_left (by omega)]
    rw [e] at ho ⊢
    exact ⟨⟨p1, c1, rfl, ho⟩, k1⟩
theorem aclfirst_any (l : List ByteArray) (p : Option Addr) (c : Nat) (w : World) (hS : StrP w p l) :
    Calls Tryz.prog 32 #[.slice p l.length c] w fun e w' => e = .returned (.string (fstL l)) ∧ w' = w := by
  refine vc_aclfirst p l.length c w _ (bsp_intro (fun h0 => ?_) (fun h0 => ?_))
  · have h0 : l = [] := List.eq_nil_of_length_eq_zero (by simp at h0; simp [h0])
    subst h0
    exact ⟨rfl, rfl⟩
  · have h0 : 0 < l.length := by
      rcases Nat.eq_zero_or_pos l.length with e | e
      · rw [e] at h0; simp at h0
      · exact e
    obtain ⟨s, sb, so, hs, hp, hcs⟩ := hS.get h0
    exact nn_is hp ⟨⟨by omega, by omega⟩, s, hcs, by rw [fst_mem hs], rfl⟩
theorem asR_zip (A : TA) (l : List ByteArray) : (l.zip (asR A l).2.1).length = (asR A l).2.1.length := by
  unfold asR
  split
  · simp
  split
  · simp
  rename_i hnd
  split
  · simp
  rename_i hE
  have := asN_len (A := A) (r := l) (Classical.byContradiction hnd) (Classical.byContradiction hE)
  rw [List.length_zip]
  show min l.length (asN A l).length = (asN A l).length
  omega
set_option maxRecDepth 100000 in
set_option maxHeartbeats 8000000 in
theorem acldo_any {p : Option Addr} {R : List Rx} {A2 : TA} (h : Tq w B b mb m A) (hT : RowT w p R A2) (hwf : WF A2) (hn : A2.length ≤ 4096) (hsm : Sm 1000000 A2) (c : Nat) (hc : A2.length ≤ c) (x : OpY) (hx : OpR27 w x) (hG : GW w) :
    Calls Tryz.prog 20 #[.pointer (some ⟨b, 0, none⟩), .slice p A2.length c, .agg #[.int .u8 x.k, .slice x.p x.gs.length x.c, .int .i64 x.a]] w fun e w' =>
      (∃ p' c' ok, e = .returned (.tuple #[.slice p' (opX A2 x.k (nmL x.gs) x.a).length c', .bool ok]) ∧ RowU w' p' c' (opX A2 x.k (nmL x.gs) x.a) ∧ (A = A2 → ok = true)) ∧ ∃ m', Ts w w' B b mb m (opX A x.k (nmL x.gs) x.a) m' := by
  refine vc_acldo b p A2.length c x.k x.p x.gs.length x.c x.a w _ (fun n1 W hW => ?_)
  have kW : K0 w W := hW.kk rfl
  rw [show x.k.tmod 8 = x.k % 8 from Int.tmod_eq_emod_of_nonneg hx.k.1]
  have hcn : W.heap[n1]? = some (.cells #[.int .u8 x.k, .slice x.p x.gs.length x.c, .int .i64 x.a] 50 (0, 0)) := hW.cells 0 rfl
  have hng : w.heap.size ≤ n1 := hW.fresh 0 rfl rfl
  have hN : ∀ {wa wb : World}, Kp (Tb mb m) wa wb → KeptL [n1] wa wb := fun k => .of_kp k (fun n hn e => by
    simp only [List.mem_cons, List.not_mem_nil, or_false] at hn
    have := (h.z.tb e).2.1
    omega)
  refine ⟨(aclnames_any x.gs x.p x.c W (hx.str.k0 kW) hx.hl).mono fun e w1 ⟨⟨pg, cg, he, hog⟩, k1⟩ => ⟨_, _, _, he, .of_k0 k1, ?_⟩⟩
  have k01 : K0 w w1 := kW.trans k1
  have hS : StrP w1 pg (nmL x.gs) := strP_own hog (Nat.le_refl _)
  have hTy : TyN 9 w1 pg := TyN.own hog
  have hle := own_le hog
  have hsz : ∀ y ∈ R, y.s.size ≤ 1000000 := fun y hy => by
    obtain ⟨j, hj⟩ := List.getElem?_of_mem hy
    have : y.s.size ≤ 80 := name_size (hwf.nm _ (List.mem_of_getElem? (hT.at hj)))
    omega
  have hgl := nmL_len x.gs
  have hgz : ∀ s ∈ nmL x.gs, s.size ≤ 1073741824 := fun s hs => by have := nmL_size hs; omega
  have hfz := fst_size (l := x.gs)
  generalize hGe : nmL x.gs = G at *
  have hfin : ∀ {wx : World}, K0 w wx → StrP w1 pg G → K0 w1 wx → Calls Tryz.prog 32 #[.slice pg G.length cg] wx fun e w' => e = .returned (.string (fstL G)) ∧ w' = wx := fun {wx} _ hS k => aclfirst_any G pg cg wx (hS.k0 k)
  have p67 : x.k % 8 = 6 ∨ x.k % 8 = 7 → opX A2 x.k G x.a = (rmA A2 (fstL G) x.a).1 ∧ opX A x.k G x.a = (rmA A (fstL G) x.a).1 := fun e => by
    unfold opX
    rw [if_neg (by omega), if_neg (by omega), if_pos e, if_neg (by omega), if_neg (by omega), if_pos e]
    exact ⟨rfl, rfl⟩
  refine bsp_intro (fun hb => ?_) (fun hb => bsp_intro (fun hb1 => ?_) (fun hb1 => bsp_intro (fun hb6 => bsp_intro (fun _ W2 hW2 => ?_) (fun h => by rw [hb6] at h; cases h)) (fun hb6 => bsp_intro (fun hb7 W2 hW2 => ?_) (fun hb7 => ?_))))
  · have hb : x.k % 8 = 0 := by simpa using hb
    have e1 : opX A2 x.k G x.a = (opA A2 (fstL G)).1 := by unfold opX; rw [if_pos hb]
    have e2 : opX A x.k G x.a = (opA A (fstL G)).1 := by unfold opX; rw [if_pos hb]
    rw [e1, e2]
    refine ⟨(aclfirst_any G pg cg w1 hS).mono fun e w2 ⟨he, hw⟩ => ⟨_, he, by rw [hw]; exact .refl _ _, ?_⟩⟩
    subst hw
    refine ⟨(acxopen_any (hT.k0 k01) hwf hn c hc (fstL G) (by omega) hsz).mono fun e w3 ⟨⟨p3, c3, he, hU⟩, k3⟩ => ⟨_, _, _, _, he, .of_k0 k3, ?_⟩⟩
    refine ⟨(aclfirst_any G pg cg w3 (hS.k0 k3)).mono fun e w4 ⟨he, hw⟩ => ⟨_, he, by rw [hw]; exact .refl _ _, ?_⟩⟩
    subst hw
    have k03 := k01.trans k3
    refine ⟨(acopen_any (h.k0 k03) (fstL G) (by omega) (gk0 hG k03)).mono fun e w5 ⟨he, m', hTs⟩ => ⟨_, he, hN hTs.k, ⟨p3, c3, _, rfl, hU.tb (h.k0 k03).z hTs.k, fun e => by rw [e]; simp⟩, m', (h.same k03).trans hTs⟩⟩
  · have hb : ¬ x.k % 8 = 0 := by simpa using hb
    have hb1 : x.k % 8 = 1 := by simpa using hb1
    have e1 : opX A2 x.k G x.a = (clA A2 (fstL G)).1 := by unfold opX; rw [if_neg hb, if_pos hb1]
    have e2 : opX A x.k G x.a = (clA A (fstL G)).1 := by unfold opX; rw [if_neg hb, if_pos hb1]
    rw [e1, e2]
    refine ⟨(aclfirst_any G pg cg w1 hS).mono fun e w2 ⟨he, hw⟩ => ⟨_, he, by rw [hw]; exact .refl _ _, ?_⟩⟩
    subst hw
    refine ⟨(acxclose_any (hT.k0 k01) hwf hn c hc (fstL G)).mono fun e w3 ⟨⟨p3, c3, he, hU⟩, k3⟩ => ⟨_, _, _, _, he, .of_k0 k3, ?_⟩⟩
    refine ⟨(aclfirst_any G pg cg w3 (hS.k0 k3)).mono fun e w4 ⟨he, hw⟩ => ⟨_, he, by rw [hw]; exact .refl _ _, ?_⟩⟩
    subst hw
    have k03 := k01.trans k3
    refine ⟨(acclose_any (h.k0 k03) (fstL G) (by omega)).mono fun e w5 ⟨he, m', hTs⟩ => ⟨_, he, hN hTs.k, ⟨p3, c3, _, rfl, hU.tb (h.k0 k03).z hTs.k, fun e => by rw [e]; simp⟩, m', (h.same k03).trans hTs⟩⟩
  · have h6 : x.k % 8 = 6 ∨ x.k % 8 = 7 := .inl (by simpa using hb6)
    rw [(p67 h6).1, (p67 h6).2]
    have k2 : K0 w1 W2 := hW2.kk rfl
    have hc2 : W2.heap[n1]? = some (.cells #[.int .u8 x.k, .slice x.p x.gs.length x.c, .int .i64 x.a] 50 (0, 0)) := hW2.cells 0 rfl
    refine ⟨fun w' => K0 W2 w', .refl _ _, x.a, fun w' k => cell_at (k.blk hc2 (fun h => h)) rfl, ⟨(aclfirst_any G pg cg W2 (hS.k0 k2)).mono fun e w3 ⟨he, hw⟩ => ⟨_, he, by rw [hw]; exact .refl _ _, ?_⟩⟩⟩
    subst hw
    refine ⟨(acxremove_any (hT.k0 (k01.trans k2)) hwf hn hsm c hc (fstL G) x.a).mono fun e w4 ⟨⟨p3, c3, he, hU⟩, k4⟩ => ⟨_, _, _, _, he, .of_k0 k4, fun W5 hW5 => ?_⟩⟩
    have k5 : K0 w4 W5 := hW5.kk rfl
    have hc5 : W5.heap[n1]? = some (.cells #[.int .u8 x.k, .slice x.p x.gs.length x.c, .int .i64 x.a] 50 (0, 0)) := hW5.cells 0 rfl
    refine ⟨fun w' => K0 W5 w', .refl _ _, x.a, fun w' k => cell_at (k.blk hc5 (fun h => h)) rfl, ⟨(aclfirst_any G pg cg W5 (hS.k0 ((k2.trans k4).trans k5))).mono fun e w6 ⟨he, hw⟩ => ⟨_, he, by rw [hw]; exact .refl _ _, ?_⟩⟩⟩
    subst hw
    have k06 := ((k01.trans k2).trans k4).trans k5
    exact ⟨(acremove_any (h.k0 k06) (fstL G) (by omega) x.a hx.a).mono fun e w7 ⟨he, m', hTs⟩ => ⟨_, he, hN hTs.k, ⟨p3, c3, _, rfl, (hU.k0 k5).tb (h.k0 k06).z hTs.k, fun e => by rw [e]; simp⟩, m', (h.same k06).trans hTs⟩⟩
  · have h6 : x.k % 8 = 6 ∨ x.k % 8 = 7 := .inr (by simpa using hb7)
    rw [(p67 h6).1, (p67 h6).2]
    have k2 : K0 w1 W2 := hW2.kk rfl
    have hc2 : W2.heap[n1]? = some (.cells #[.int .u8 x.k, .slice x.p x.gs.length x.c, .int .i64 x.a] 50 (0, 0)) := hW2.cells 0 rfl
    refine ⟨fun w' => K0 W2 w', .refl _ _, x.a, fun w' k => cell_at (k.blk hc2 (fun h => h)) rfl, ⟨(aclfirst_any G pg cg W2 (hS.k0 k2)).mono fun e w3 ⟨he, hw⟩ => ⟨_, he, by rw [hw]; exact .refl _ _, ?_⟩⟩⟩
    subst hw
    refine ⟨(acxremove_any (hT.k0 (k01.trans k2)) hwf hn hsm c hc (fstL G) x.a).mono fun e w4 ⟨⟨p3, c3, he, hU⟩, k4⟩ => ⟨_, _, _, _, he, .of_k0 k4, fun W5 hW5 => ?_⟩⟩
    have k5 : K0 w4 W5 := hW5.kk rfl
    have hc5 : W5.heap[n1]? = some (.cells #[.int .u8 x.k, .slice x.p x.gs.length x.c, .int .i64 x.a] 50 (0, 0)) := hW5.cells 0 rfl
    refine ⟨fun w' => K0 W5 w', .refl _ _, x.a, fun w' k => cell_at (k.blk hc5 (fun h => h)) rfl, ⟨(aclfirst_any G pg cg W5 (hS.k0 ((k2.trans k4).trans k5))).mono fun e w6 ⟨he, hw⟩ => ⟨_, he, by rw [hw]; exact .refl _ _, ?_⟩⟩⟩
    subst hw
    have k06 := ((k01.trans k2).trans k4).trans k5
    exact ⟨(acremove_any (h.k0 k06) (fstL G) (by omega) x.a hx.a).mono fun e w7 ⟨he, m', hTs⟩ => ⟨_, he, hN hTs.k, ⟨p3, c3, _, rfl, (hU.k0 k5).tb (h.k0 k06).z hTs.k, fun e => by rw [e]; simp⟩, m', (h.same k06).trans hTs⟩⟩
  · have hb : ¬ x.k % 8 = 0 := by simpa using hb
    have hb1 : ¬ x.k % 8 = 1 := by simpa using hb1
    have hb6 : ¬ x.k % 8 = 6 := by simpa using hb6
    have hb7 : ¬ x.k % 8 = 7 := by simpa using hb7
    have e1 : opX A2 x.k G x.a = (asR A2 G).1 := by unfold opX; rw [if_neg hb, if_neg hb1, if_neg (by omega)]
    have e2 : opX A x.k G x.a = (asR A G).1 := by unfold opX; rw [if_neg hb, if_neg hb1, if_neg (by omega)]
    rw [e1, e2]
    refine ⟨(acxassign_any (hT.k0 k01) hwf hn hsm c hc G pg cg hS (by omega)).mono fun e w3 ⟨⟨p3, c3, q3, d3, he, hU, hNr⟩, k3⟩ => ⟨_, _, _, _, _, _, _, he, .of_k0 k3, ?_⟩⟩
    have k03 := k01.trans k3
    have h3 := h.k0 k03
    refine ⟨(acassign_any h3 G pg cg (hS.k0 k3) (hTy.k0 k3) (by omega) hle hgz).mono fun e w4 ⟨⟨p4, c4, he, hr4, ht4⟩, m', hTs⟩ => ⟨_, _, _, _, he, hN hTs.k, ?_⟩⟩
    have hU4 := hU.tb h3.z hTs.k
    have hN4 := hNr.tb h3.z hTs.k
    have hS4 : StrP w4 pg G := (hS.k0 k3).kp hTs.k (fun b o e => by
      obtain ⟨cc, ff, hcc⟩ := (hTy.k0 k3) b o e
      exact h3.z.not_ty hcc (by decide))
    have hT4 := (h.same k03).trans hTs
    have hzp := asR_zip A G
    refine bsp_intro (fun hg => ⟨⟨p3, c3, _, rfl, hU4, fun e => ?_⟩, m', hT4⟩) (fun hg => ?_)
    · subst e
      exfalso
      revert hg
      simp [hzp]
    have hg : (asR A G).2.2 = (asR A2 G).2.2 ∧ (G.zip (asR A G).2.1).length = (asR A2 G).2.1.length := by
      simp only [Bool.or_eq_false_iff, bne_eq_false_iff_eq] at hg
      exact ⟨hg.1, by have := hg.2; omega⟩
    have hzl : (G.zip (asR A G).2.1).length ≤ G.length := by rw [List.length_zip]; omega
    refine ⟨fun vs w' => ∃ i : Nat, vs = [.int .i64 (i : Int)] ∧ i ≤ (G.zip (asR A G).2.1).length ∧ K0 w4 w', fun vs _ => (match vs with | .int _ a :: _ => (G.zip (asR A G).2.1).length - a.toNat | _ => 0), ⟨0, rfl, by omega, .refl _ _⟩, ?_⟩
    rintro xi w5 ⟨i, hv, hi, k5⟩ hL5
    simp only [List.cons.injEq, Value.int.injEq, true_and, and_true] at hv
    subst hv
    refine bsp_intro (fun hlt => ?_) (fun hge => ⟨⟨p3, c3, _, rfl, hU4.k0 k5, fun _ => rfl⟩, m', hT4.k0 k5⟩)
    have hlt : i < (G.zip (asR A G).2.1).length := by simp only [decide_eq_true_eq] at hlt; omega
    obtain ⟨y, yb, yo, hy, hpy, haty⟩ := (hr4.k0 k5).get hlt
    obtain ⟨s, sb, so, hs, hps, hcs⟩ := (hS4.k0 k5).get (k := i) (by omega)
    obtain ⟨v, vb, vo, hv, hpv, hatv⟩ := (hN4.k0 k5).row.get (k := i) (by omega)
    rw [Nat.mul_one] at hatv
    have hcv := hatv.cell (j := 0) rfl
    rw [Nat.add_zero] at hcv
    rw [Int.toNat_natCast]
    refine nn_is hpy ⟨⟨by omega, by omega⟩, y.1, y.2, fun W6 hW6 => haty.k0 (hW6.kk rfl), nn_is hps ⟨⟨by omega, by omega⟩, s, fun W6 hW6 => (hW6.kk rfl : K0 w5 W6).cell' hcs (fun h => h), nn_is hpv ⟨⟨by omega, by omega⟩, v, fun W6 hW6 => (hW6.kk rfl : K0 w5 W6).cell' hcv (fun h => h), _, plEq27 y.1 s y.2 v, bsp_intro (fun hr W6 hW6 => ?_) (fun hr W6 hW6 => ?_)⟩⟩⟩
    · refine ⟨⟨p3, c3, _, rfl, hU4.k0 (k5.trans (hW6.kk rfl)), fun e => ?_⟩, m', hT4.k0 (k5.trans (hW6.kk rfl))⟩
      subst e
      exfalso
      rw [List.getElem?_zip_eq_some, hs, hv] at hy
      obtain ⟨e1, e2⟩ := hy
      cases e1
      cases e2
      simp at hr
    · rw [inc64 (by omega)]
      exact ⟨⟨i + 1, rfl, hlt, k5.trans (hW6.kk rfl)⟩, by simp only [Int.toNat_natCast]; omega⟩
end

end Go.Proofs.YtgmmoghagpmpfaaGreatDoor

/- Chapter 27: the law's state and play. The library's variable MaxLen holds a number. -/
namespace Go.Proofs.YtgmmoghagpmpfaaGreatDoor
open Go.RowKit Go.Sort Go.Maps

/-- The table behind operations. -/
def plyT (l : List OpY) : TA := l.foldl (fun A x => opX A x.k (nmL x.gs) x.a) []
theorem plyT_snoc (l : List OpY) (x : OpY) : plyT (l ++ [x]) = opX (plyT l) x.k (nmL x.gs) x.a := by unfold plyT; rw [List.foldl_append]; rfl
theorem hi_opX {A : TA} (h : WF A) (k : Int) (l : List ByteArray) (n : Int) {s : ByteArray} {u : Gv} (hg : aget (opX A k l n) s = some u) : (∃ v, aget A s = some v ∧ u.h ≤ v.h + 1) ∨ u.h = 0 := by
  unfold opX at hg
  split at hg
  · rw [opA_get h] at hg
    split at hg
    · rename_i e
      subst e
      cases hA : aget A (fstL l) with
      | none =>
        rw [hA] at hg
        unfold opG at hg
        simp only at hg
        split at hg
        · cases hg
        split at hg
        · cases hg
        · cases hg; exact .inr rfl
      | some v =>
        rw [hA] at hg
        unfold opG at hg
        simp only at hg
        refine .inl ⟨v, rfl, ?_⟩
        split at hg
        · cases hg; omega
        split at hg
        · cases hg; omega
        · cases hg; show v.h ≤ v.h + 1; omega
    · exact .inl ⟨u, hg, by omega⟩
  split at hg
  · rw [clA_get] at hg
    split at hg
    · rename_i e
      subst e
      cases hA : aget A (fstL l) with
      | none => rw [hA] at hg; cases hg
      | some v => rw [hA] at hg; cases hg; exact .inl ⟨v, rfl, by show v.h ≤ v.h + 1; omega⟩
    · exact .inl ⟨u, hg, by omega⟩
  split at hg
  · rw [rmA_get] at hg
    split at hg
    · rename_i e
      subst e
      cases hA : aget A (fstL l) with
      | none => rw [hA] at hg; cases hg
      | some v =>
        rw [hA] at hg
        unfold rmG at hg
        simp only at hg
        refine .inl ⟨v, rfl, ?_⟩
        split at hg
        · cases hg; show v.h ≤ v.h + 1; omega
        · cases hg; omega
    · exact .inl ⟨u, hg, by omega⟩
  · rcases asR_get (A := A) l s with e | ⟨v, g1, _, _, _, _, g3⟩
    · exact .inl ⟨u, by rw [← e]; exact hg, by omega⟩
    · rw [hg] at g3
      cases g3
      exact .inl ⟨v, g1, Int.le_refl _⟩
theorem Sm.opX {A : TA} {j : Nat} (h : WF A) (hs : Sm j A) (k : Int) (l : List ByteArray) (n : Int) : Sm (j + 1) (opX A k l n) := fun p hp => by
  rcases hi_opX h k l n (aget_at (wf_opX h k l n).dis hp) with ⟨v, h1, h2⟩ | h1
  · have : v.h ≤ (j : Int) := hs _ (aget_mem h1)
    omega
  · rw [h1]; omega
theorem Sm.mono {A : TA} {j k : Nat} (hs : Sm j A) (h : j ≤ k) : Sm k A := fun p hp => by have := hs p hp; omega
/-- What operations keep. -/
structure Pl27 (A : TA) (n : Nat) : Prop where
  wf : WF A
  len : A.length ≤ n
  sm : Sm n A
theorem Pl27.op {A : TA} {n : Nat} (h : Pl27 A n) (k : Int) (l : List ByteArray) (a : Int) : Pl27 (opX A k l a) (n + 1) := ⟨wf_opX h.wf _ _ _, by have := opX_len A k l a; have := h.len; omega, Sm.opX h.wf h.sm _ _ _⟩
theorem Pl27.nil : Pl27 [] 0 := ⟨WF.nil, Nat.le_refl _, fun p hp => by cases hp⟩
theorem Pl27.fold : ∀ (l : List OpY) {A : TA} {n : Nat}, Pl27 A n → Pl27 (l.foldl (fun A x => opX A x.k (nmL x.gs) x.a) A) (n + l.length)
  | [], _, _, h => h
  | x :: l, A, n, h => by
    have := Pl27.fold l (h.op x.k (nmL x.gs) x.a)
    rw [List.foldl_cons, List.length_cons, show n + (l.length + 1) = n + 1 + l.length by omega]
    exact this
theorem plyT_ok (l : List OpY) : Pl27 (plyT l) l.length := by
  have := Pl27.fold l .nil
  rwa [Nat.zero_add] at this
theorem Pl27.ivl {A : TA} {n : Nat} (h : Pl27 A n) {p : ByteArray × Gv} (hp : p ∈ A) : p.2.l.length ≤ n := Nat.le_trans (ivs_len (h.wf.iv p hp)) (h.sm.len h.wf hp)
section
variable {w : World} {B b mb : Nat} {m : TM} {A : TA}
set_option maxHeartbeats 2000000 in
theorem aclstate_any {p : Option Addr} (h : Tq w B b mb m A) (hU : ∃ R, RowT w p R A) (hsm : Sm 1000000 A) (c : Nat) (hG : GW w) :
    Calls Tryz.prog 21 #[.pointer (some ⟨b, 0, none⟩), .slice p A.length c] w fun e w' => e = .returned (.bool true) ∧ K0 w w' := by
  obtain ⟨R, hT⟩ := hU
  have hlen := h.len
  refine vc_aclstate b p A.length c w _ ⟨(acgroups_any h hG).mono fun e w1 ⟨⟨p1, c1, he, ho⟩, k1⟩ => ⟨_, _, _, he, .of_k0 k1, bsp_intro (fun hb => ?_) (fun _ => ?_)⟩⟩
  · simp at hb
  have hS : StrP w1 p1 (A.map (·.1)) := strP_own ho (Nat.le_refl _)
  refine ⟨fun vs w' => ∃ i : Nat, vs = [.int .i64 (i : Int)] ∧ i ≤ A.length ∧ K0 w1 w', fun vs _ => (match vs with | .int _ a :: _ => A.length - a.toNat | _ => 0), ⟨0, rfl, by omega, .refl _ _⟩, ?_⟩
  rintro xi w2 ⟨i, hv, hi, k2⟩
  simp only [List.cons.injEq, Value.int.injEq, true_and, and_true] at hv
  subst hv
  have k02 := k1.trans k2
  refine bsp_intro (fun hlt => ?_) (fun hge => ⟨rfl, k02⟩)
  have hlt : i < A.length := by simp at hlt; omega
  obtain ⟨x, b1, o, hx, hp, hat⟩ := (hT.row.k0 k02).get (k := i) (by rw [hT.len]; exact hlt)
  have hxA := hT.at hx
  have hg := hT.found h.wf.dis hx
  have hmx := List.mem_of_getElem? hx
  obtain ⟨hnm, hh0, hh1, hiv⟩ := h.wf.get hg
  have hzs := name_size hnm
  have hle : (exI x.v.l).length ≤ 1000000 := hsm.len h.wf (aget_mem hg)
  rw [Int.toNat_natCast]
  refine nn_is hp ⟨⟨by omega, by omega⟩, x.s, hat.cell (j := 0) rfl, ⟨(acget_any (h.k0 k02) x.s (by omega)).mono fun e w3 ⟨he, k3⟩ => ?_⟩⟩
  rw [hg] at he
  refine ⟨_, _, _, _, _, _, he, .of_k0 k3, fun n2 W hW => ?_⟩
  have kW : K0 w3 W := hW.kk rfl
  have k2W := k3.trans kW
  have hcn : W.heap[n2]? = some (.cells #[.string x.s, .int .i64 (lowI x.v), .int .i64 x.v.h, .int .i64 ((exI x.v.l).length : Nat), .bool x.v.c] 31 (0, 0)) := hW.cells 0 rfl
  obtain ⟨s, sb, so, hs, hps, hcs⟩ := ((hS.k0 k2).k0 k2W).get (k := i) (by simpa using hlt)
  have hss : s = x.s := by
    rw [List.getElem?_map, hxA] at hs
    cases hs; rfl
  subst hss
  have hatW := hat.k0 k2W
  refine ⟨fun w' => K0 W w', .refl _ _, nn_is hps ⟨⟨by omega, by simp; omega⟩, x.s, fun w' k => k.cell' hcs (fun h => h), nn_is hp ⟨⟨by omega, by omega⟩, x.s, fun w' k => (hatW.k0 k).cell (j := 0) rfl, x.s, lowI x.v, x.v.h, ((exI x.v.l).length : Nat), x.v.c, gimp_intro fun _ w' k => AtL_block (k.blk hcn (fun h => h)) rfl,
    nn_is hp ⟨gimp_intro fun _ => ⟨by omega, by omega⟩, x.s, gimp_intro fun _ w' k => (hatW.k0 k).cell (j := 0) rfl, nn_is hp ⟨gimp_intro fun _ => ⟨by omega, by omega⟩, _, _, _, _, _, _, gimp_intro fun _ w' k => hatW.k0 k, nn_is hp ⟨gimp_intro fun _ => ⟨by omega, by omega⟩, x.v.h, gimp_intro fun _ w' k => (hatW.k0 k).cell (j := 1) rfl, nn_is hp ⟨gimp_intro fun _ => ⟨by omega, by omega⟩, x.q, (exI x.v.l).length, x.d, gimp_intro fun _ w' k => (hatW.k0 k).cell (j := 2) rfl, nn_is hp ⟨gimp_intro fun _ => ⟨by omega, by omega⟩, x.v.c, gimp_intro fun _ w' k => (hatW.k0 k).cell (j := 3) rfl, bsp_intro (fun _ => ?_) (fun hb => ?_)⟩⟩⟩⟩⟩⟩⟩⟩
  · refine ⟨(acxlow_any x ((hT.sub x hmx).k0 (k02.trans k2W)) hiv ⟨hh0, hh1⟩).mono fun e w4 ⟨he, k4⟩ => ⟨_, he, k4, _, grEq27 x.s x.s _ _ _ _ _ _ _ _, .of_k0 k4, bsp_intro (fun hb => ?_) (fun _ => ?_)⟩⟩
    · simp at hb
    · rw [inc64 (by omega)]
      exact ⟨⟨i + 1, rfl, hlt, (k2.trans k2W).trans k4⟩, by simp only [Int.toNat_natCast]; omega⟩
  · simp at hb
set_option maxHeartbeats 2000000 in
theorem aclplay_any (ops : List OpY) (q : Option Addr) (d : Nat) (w : World) (hR : RowA opC27 3 w q ops) (hO : ∀ x ∈ ops, OpR27 w x) (hl : ops.length ≤ 4611686018427387904) (hG : GW w) :
    Calls Tryz.prog 22 #[.slice q ops.length d] w fun e w' => (∃ b mb m p c, e = .returned (.tuple #[.pointer (some ⟨b, 0, none⟩), .slice p (plyT (ops.take 40)).length c, .bool true]) ∧ Tq w' w.heap.size b mb m (plyT (ops.take 40)) ∧ RowU w' p c (plyT (ops.take 40))) ∧ K0 w w' := by
  refine vc_aclplay q ops.length d w _ ⟨(acnew_any w (gw_lt hG)).mono fun e w1 ⟨⟨b, mb, he, hT1⟩, k1⟩ => ⟨_, he, .of_k0 k1, ?_⟩⟩
  refine ⟨fun vs w' => ∃ (i : Nat) (m : TM) (p : Option Addr) (c : Nat), vs = [.int .i64 (i : Int), .slice p (plyT (ops.take i)).length c] ∧ i ≤ ops.length ∧ i ≤ 40 ∧ Tq w' w.heap.size b mb m (plyT (ops.take i)) ∧ RowU w' p c (plyT (ops.take i)) ∧ K0 w w',
    fun vs _ => (match vs with | .int _ a :: _ => ops.length - a.toNat | _ => 0), ⟨0, [], none, 0, rfl, by omega, by omega, hT1, ⟨[], .nil, Nat.le_refl _⟩, k1⟩, ?_⟩
  rintro xi p1 n1 c1 w2 ⟨i, m, p, c, hv, hi, hi4, hq, ⟨R, hT, hc⟩, k2⟩
  simp only [List.cons.injEq, Value.int.injEq, Value.slice.injEq, true_and, and_true] at hv
  obtain ⟨rfl, rfl, rfl, rfl⟩ := hv
  refine bsp_intro (fun hlt => ?_) (fun hge => ?_)
  · have hlt : i < ops.length ∧ i < 40 := by simp at hlt; omega
    obtain ⟨x, xb, xo, hx, hp, hat⟩ := (hR.k0 k2).get hlt.1
    rw [Int.toNat_natCast]
    have hok := plyT_ok (ops.take i)
    have hil : (ops.take i).length ≤ 40 := by rw [List.length_take]; omega
    have hlA := hok.len
    refine nn_is hp ⟨⟨by omega, by omega⟩, _, _, _, _, _, hat, ⟨(acldo_any hq hT hok.wf (by omega) (hok.sm.mono (by omega)) c1 hc x ((hO x (List.mem_of_getElem? hx)).k0 k2) (gk0 hG k2)).mono fun e w3 ⟨⟨p', c', ok, he, hU, hok'⟩, m', hTs⟩ => ⟨_, _, _, _, he, ⟨hTs.k.size, fun _ hm => by cases hm⟩, bsp_intro (fun hb => ?_) (fun _ => ?_)⟩⟩⟩
    · rw [hok' rfl] at hb; cases hb
    · rw [inc64 (by omega)]
      rw [← plyT_snoc, ← take_snoc hx] at hU hTs ⊢
      exact ⟨⟨i + 1, m', p', c', rfl, by omega, by omega, hTs.t, hU, hTs.base hq.z k2 (Nat.le_refl _)⟩, by simp only [Int.toNat_natCast]; omega⟩
  · have hge : ops.length ≤ i ∨ 40 ≤ i := by simp at hge; omega
    have e : ops.take i = ops.take 40 := by
      rcases hge with h | h
      · rw [List.take_of_length_le h, List.take_of_length_le (by omega)]
      · rw [show i = 40 by omega]
    rw [e] at hq hT hc ⊢
    exact ⟨⟨b, mb, m, p1, c1, rfl, hq, R, hT, hc⟩, k2⟩
end

end Go.Proofs.YtgmmoghagpmpfaaGreatDoor

/- The formulas of functions by the symbolic evaluator, and that each gives the call's contract. Written by a program (gen.py). No condition. -/
namespace Go.Proofs.YtgmmoghagpmpfaaGreatDoor
set_option maxRecDepth 100000
set_option linter.unusedVariables false

def VC_aclorder (p : Option Addr) (n : Nat) (c : Nat) (q : Option Addr) (k : Nat) (d : Nat) (w : World) (R : Ending → World → Prop) : Prop :=
 CallsS Tryz.prog 15 #[] w fun (e : Ending) (w' : World) =>
 ∃ (x : Bool),
 e = Ending.returned (Value.bool x) ∧
 KeptL [] w w' ∧
 bsp (!x) (R (Ending.returned (Value.bool false)) w')
 (CallsS Tryz.prog 19 #[] w' fun (e : Ending) (w'_1 : World) =>
 ∃ (x : Option Addr),
 e = Ending.returned (Value.pointer x) ∧
 KeptL [] w' w'_1 ∧
 CallsS Tryz.prog 19 #[] w'_1 fun (e : Ending) (w' : World) =>
 ∃ (x_1 : Option Addr),
 e = Ending.returned (Value.pointer x_1) ∧
 KeptL [] w'_1 w' ∧
 ∃ (I : List Value → World → Prop),
 ∃ (m : List Value → World → Nat),
 I [Value.int IntKind.i64 0] w' ∧
 ∀ (x_2 : Int) (w' : World),
 I [Value.int IntKind.i64 x_2] w' →
 bsp (decide (x_2 < (↑n : Int)) && decide (x_2 < 20))
 (∀ (W : World),
 Loc w.heap.size [] w' W →
 ∃ (S : World → Prop),
 S W ∧
 nn true p fun (b o : Nat) =>
 (0 ≤ x_2 ∧ x_2 < (↑n : Int)) ∧
 ∃ (x_3 : Int),
 (∀ (w' : World),
 S w' → w'.cell? (Addr.mk b (o + x_2.toNat * 3) none) = some (Value.int IntKind.u8 x_3)) ∧
 nn true p fun (b o : Nat) =>
 (0 ≤ x_2 ∧ x_2 < (↑n : Int)) ∧
 ∃ (x_4 : Int),
 (∀ (w' : World),
 S w' →
 w'.cell? (Addr.mk b (o + x_2.toNat * 3 + 2) none) = some (Value.int IntKind.i64 x_4)) ∧
 ∀ (n : Nat) (w1 : World),
 NewB W (Obj.cells #[Value.string (ByteArray.mk #[97])] 9) n w1 →
 S w1 ∧
 CallsS Tryz.prog 20
 #[Value.pointer x, Value.slice none 0 0,
 Value.agg
 #[Value.int IntKind.u8 x_3, Value.slice (some (Addr.mk n 0 none)) 1 1,
 Value.int IntKind.i64 x_4]]
 w1 fun (e : Ending) (w'_2 : World) =>
 ∃ (p : Option Addr),
 ∃ (n : Nat),
 ∃ (c : Nat),
 ∃ (x : Bool),
 e = Ending.returned (Value.tuple #[Value.slice p n c, Value.bool x]) ∧
 KeptL [] W w'_2 ∧
 I [Value.int IntKind.i64 (IntKind.i64.wrap (x_2 + 1))] w'_2 ∧
 m [Value.int IntKind.i64 (IntKind.i64.wrap (x_2 + 1))] w'_2 <
 m [Value.int IntKind.i64 x_2] w')
 (∃ (I : List Value → World → Prop),
 ∃ (m : List Value → World → Nat),
 I [Value.int IntKind.i64 0] w' ∧
 ∀ (x_3 : Int) (w' : World),
 I [Value.int IntKind.i64 x_3] w' →
 bsp (decide (x_3 < 20))
 (bsp (decide (x_3 < (↑k : Int)))
 (∀ (W : World),
 Loc w.heap.size [] w' W →
 ∃ (S : World → Prop),
 S W ∧
 nn true q fun (b o : Nat) =>
 (0 ≤ x_3 ∧ x_3 < (↑k : Int)) ∧
 ∃ (x_4 : Int),
 (∀ (w' : World),
 S w' →
 w'.cell? (Addr.mk b (o + x_3.toNat * 3) none) = some (Value.int IntKind.u8 x_4)) ∧
 nn true q fun (b o : Nat) =>
 (0 ≤ x_3 ∧ x_3 < (↑k : Int)) ∧
 ∃ (x_5 : Int),
 (∀ (w' : World),
 S w' →
 w'.cell? (Addr.mk b (o + x_3.toNat * 3 + 2) none) =
 some (Value.int IntKind.i64 x_5)) ∧
 ∀ (n_1 : Nat) (w1 : World),
 NewB W (Obj.cells #[Value.string (ByteArray.mk #[98])] 9) n_1 w1 →
 S w1 ∧
 CallsS Tryz.prog 20
 #[Value.pointer x_1, Value.slice none 0 0,
 Value.agg
 #[Value.int IntKind.u8 x_4, Value.slice (some (Addr.mk n_1 0 none)) 1 1,
 Value.int IntKind.i64 x_5]]
 w1 fun (e : Ending) (w'_2 : World) =>
 ∃ (p_1 : Option Addr),
 ∃ (n_2 : Nat),
 ∃ (c : Nat),
 ∃ (x_6 : Bool),
 e =
 Ending.returned (Value.tuple #[Value.slice p_1 n_2 c, Value.bool x_6]) ∧
 KeptL [] W w'_2 ∧
 ∀ (W : World),
 Loc w.heap.size [] w'_2 W →
 ∃ (S : World → Prop),
 S W ∧
 nn true q fun (b o : Nat) =>
 (0 ≤ x_3 ∧ x_3 < (↑k : Int)) ∧
 ∃ (x_7 : Int),
 (∀ (w' : World),
 S w' →
 w'.cell? (Addr.mk b (o + x_3.toNat * 3) none) =
 some (Value.int IntKind.u8 x_7)) ∧
 nn true q fun (b o : Nat) =>
 (0 ≤ x_3 ∧ x_3 < (↑k : Int)) ∧
 ∃ (x_8 : Int),
 (∀ (w' : World),
 S w' →
 w'.cell? (Addr.mk b (o + x_3.toNat * 3 + 2) none) =
 some (Value.int IntKind.i64 x_8)) ∧
 ∀ (n_3 : Nat) (w1 : World),
 NewB W (Obj.cells #[Value.string (ByteArray.mk #[98])] 9)
 n_3 w1 →
 S w1 ∧
 CallsS Tryz.prog 20
 #[Value.pointer x, Value.slice none 0 0,
 Value.agg
 #[Value.int IntKind.u8 x_7,
 Value.slice (some (Addr.mk n_3 0 none)) 1 1,
 Value.int IntKind.i64 x_8]]
 w1 fun (e : Ending) (w'_3 : World) =>
 ∃ (p_2 : Option Addr),
 ∃ (n_4 : Nat),
 ∃ (c : Nat),
 ∃ (x : Bool),
 e =
 Ending.returned
 (Value.tuple
 #[Value.slice p_2 n_4 c, Value.bool x]) ∧
 KeptL [] W w'_3 ∧
 bsp (decide (x_3 < (↑n : Int)))
 (∀ (W : World),
 Loc w.heap.size [] w'_3 W →
 ∃ (S : World → Prop),
 S W ∧
 nn true p fun (b o : Nat) =>
 (0 ≤ x_3 ∧ x_3 < (↑n : Int)) ∧
 ∃ (x : Int),
 (∀ (w' : World),
 S w' →
 w'.cell?
 (Addr.mk b (o + x_3.toNat * 3)
 none) =
 some (Value.int IntKind.u8 x)) ∧
 nn true p fun (b o : Nat) =>
 (0 ≤ x_3 ∧ x_3 < (↑n : Int)) ∧
 ∃ (x_9 : Int),
 (∀ (w' : World),
 S w' →
 w'.cell?
 (Addr.mk b
 (o + x_3.toNat * 3 + 2) none) =
 some
 (Value.int IntKind.i64 x_9)) ∧
 ∀ (n : Nat) (w1 : World),
 NewB W
 (Obj.cells
 #[Value.string
 (ByteArray.mk #[97])]
 9)
 n w1 →
 S w1 ∧
 CallsS Tryz.prog 20
 #[Value.pointer x_1,
 Value.slice none 0 0,
 Value.agg
 #[Value.int IntKind.u8 x,
 Value.slice
 (some (Addr.mk n 0 none)) 1
 1,
 Value.int IntKind.i64 x_9]]
 w1
 fun (e : Ending)
 (w'_4 : World) =>
 ∃ (p : Option Addr),
 ∃ (n : Nat),
 ∃ (c : Nat),
 ∃ (x : Bool),
 e =
 Ending.returned
 (Value.tuple
 #[Value.slice p n c,
 Value.bool x]) ∧
 KeptL [] W w'_4 ∧
 I
 [Value.int IntKind.i64
 (IntKind.i64.wrap
 (x_3 + 1))]
 w'_4 ∧
 m
 [Value.int IntKind.i64
 (IntKind.i64.wrap
 (x_3 + 1))]
 w'_4 <
 m
 [Value.int IntKind.i64
 x_3]
 w')
 (I
 [Value.int IntKind.i64
 (IntKind.i64.wrap (x_3 + 1))]
 w'_3 ∧
 m
 [Value.int IntKind.i64
 (IntKind.i64.wrap (x_3 + 1))]
 w'_3 <
 m [Value.int IntKind.i64 x_3] w'))
 (bsp (decide (x_3 < (↑n : Int)))
 (∀ (W : World),
 Loc w.heap.size [] w' W →
 ∃ (S : World → Prop),
 S W ∧
 nn true p fun (b o : Nat) =>
 (0 ≤ x_3 ∧ x_3 < (↑n : Int)) ∧
 ∃ (x : Int),
 (∀ (w' : World),
 S w' →
 w'.cell? (Addr.mk b (o + x_3.toNat * 3) none) = some (Value.int IntKind.u8 x)) ∧
 nn true p fun (b o : Nat) =>
 (0 ≤ x_3 ∧ x_3 < (↑n : Int)) ∧
 ∃ (x_4 : Int),
 (∀ (w' : World),
 S w' →
 w'.cell? (Addr.mk b (o + x_3.toNat * 3 + 2) none) =
 some (Value.int IntKind.i64 x_4)) ∧
 ∀ (n : Nat) (w1 : World),
 NewB W (Obj.cells #[Value.string (ByteArray.mk #[97])] 9) n w1 →
 S w1 ∧
 CallsS Tryz.prog 20
 #[Value.pointer x_1, Value.slice none 0 0,
 Value.agg
 #[Value.int IntKind.u8 x, Value.slice (some (Addr.mk n 0 none)) 1 1,
 Value.int IntKind.i64 x_4]]
 w1 fun (e : Ending) (w'_2 : World) =>
 ∃ (p : Option Addr),
 ∃ (n : Nat),
 ∃ (c : Nat),
 ∃ (x : Bool),
 e = Ending.returned (Value.tuple #[Value.slice p n c, Value.bool x]) ∧
 KeptL [] W w'_2 ∧
 I [Value.int IntKind.i64 (IntKind.i64.wrap (x_3 + 1))] w'_2 ∧
 m [Value.int IntKind.i64 (IntKind.i64.wrap (x_3 + 1))] w'_2 <
 m [Value.int IntKind.i64 x_3] w')
 (I [Value.int IntKind.i64 (IntKind.i64.wrap (x_3 + 1))] w' ∧
 m [Value.int IntKind.i64 (IntKind.i64.wrap (x_3 + 1))] w' <
 m [Value.int IntKind.i64 x_3] w')))
 (CallsS Tryz.prog 24 #[Value.pointer x, Value.pointer x_1] w'
 fun (e : Ending) (w'_2 : World) =>
 ∃ (x_4 : Bool),
 e = Ending.returned (Value.bool x_4) ∧
 KeptL [] w' w'_2 ∧
 bsp x_4
 (CallsS Tryz.prog 17 #[Value.pointer x] w'_2 fun (e : Ending) (w' : World) =>
 ∃ (x : ByteArray),
 e = Ending.returned (Value.string x) ∧
 KeptL [] w'_2 w' ∧
 CallsS Tryz.prog 17 #[Value.pointer x_1] w' fun (e : Ending) (w'_3 : World) =>
 ∃ (x_5 : ByteArray),
 e = Ending.returned (Value.string x_5) ∧
 KeptL [] w' w'_3 ∧
 R (Ending.returned (Value.bool (true && x.toList == x_5.toList))) w'_3)
 (KeptL [] w'_2 w'_2 ∧ KeptL [] w'_2 w'_2 ∧ R (Ending.returned (Value.bool false)) w'_2))))
theorem vc_aclorder (p : Option Addr) (n : Nat) (c : Nat) (q : Option Addr) (k : Nat) (d : Nat) (w : World) (R : Ending → World → Prop) (h : VC_aclorder p n c q k d w R) : Calls Tryz.prog 7 ([Value.slice
    p n c,
  Value.slice q k d] : List Value).toArray w R := by
  have e : execR2 { P := Tryz.prog, loops := [(5, [(7, Ck.int IntKind.i64)]), (9, [(8, Ck.int IntKind.i64)])], pur := pur1, tails := [(7, 6), (12, 6), (13, 6), (15, 6)], joins := [], boxes := [] } Tryz.f7.results.toList R (Tryz.f7.body.getD .skip) (initF [Value.slice
    p n c,
  Value.slice q k
    d] (Tryz.f7.ntmps - ([Value.slice p n c,
  Value.slice q k d] : List Value).length)) w = VC_aclorder p n c q k d w R := by kernel_rfl
  have hb : Tryz.f7.body = some (Tryz.f7.body.getD .skip) := by kernel_rfl
  exact calls_of_exec2' (P := Tryz.prog) (fn := Tryz.f7) (c := Tryz.f7.body.getD .skip) (args := [Value.slice p n c,
  Value.slice q k d]) (w := w) (R := R) pur1_ok Tryz.func7 hb e h

end Go.Proofs.YtgmmoghagpmpfaaGreatDoor

/- Chapter 27: ActiveOrder on worlds. The library's variable MaxLen holds a number, its table of powers of ten reads as laid. -/
namespace Go.Proofs.YtgmmoghagpmpfaaGreatDoor
open Go.RowKit Go.Sort Go.Maps

def kB : ByteArray := ⟨#[98]⟩
theorem nmA : nmL [kA] = [kA] := by kernel_rfl
theorem nmB : nmL [kB] = [kB] := by kernel_rfl
theorem kAB : kA ≠ kB := by decide
/-- What operations make of one name. -/
def loF (s : ByteArray) (l : List OpY) : Option Gv := l.foldl (fun o x => loX s x.k x.a o) none
theorem loF_snoc (s : ByteArray) (l : List OpY) (x : OpY) : loF s (l ++ [x]) = loX s x.k x.a (loF s l) := by unfold loF; rw [List.foldl_append]; rfl
/-- A table of the names a and b. -/
structure Ab2 (S : TA) (u v : Option Gv) : Prop where
  ga : aget S kA = u
  gb : aget S kB = v
  go : ∀ s, s ≠ kA → s ≠ kB → aget S s = none
theorem Ab2.eq {S T : TA} {u v : Option Gv} (h : Ab2 S u v) (k : Ab2 T u v) (hS : WF S) (hT : WF T) : S = T := ksort_ext hS.sort hT.sort fun s => by
  by_cases h1 : s = kA
  · rw [h1, h.ga, k.ga]
  by_cases h2 : s = kB
  · rw [h2, h.gb, k.gb]
  rw [h.go s h1 h2, k.go s h1 h2]
theorem Ab2.a {S : TA} {u v : Option Gv} {n : Nat} (h : Ab2 S u v) (hP : Pl27 S n) (hn : n < 4096) (k a : Int) : Ab2 (opX S k [kA] a) (loX kA k a u) v := by
  have e := fun t => opX_lo hP.wf (Nat.lt_of_le_of_lt hP.len hn) kA t k a
  exact ⟨by rw [e, if_pos rfl, h.ga], by rw [e, if_neg kAB]; exact h.gb, fun s h1 h2 => by rw [e, if_neg (fun e => h1 e.symm)]; exact h.go s h1 h2⟩
theorem Ab2.b {S : TA} {u v : Option Gv} {n : Nat} (h : Ab2 S u v) (hP : Pl27 S n) (hn : n < 4096) (k a : Int) : Ab2 (opX S k [kB] a) u (loX kB k a v) := by
  have e := fun t => opX_lo hP.wf (Nat.lt_of_le_of_lt hP.len hn) kB t k a
  exact ⟨by rw [e, if_neg (fun e => kAB e.symm)]; exact h.ga, by rw [e, if_pos rfl, h.gb], fun s h1 h2 => by rw [e, if_neg (fun e => h2 e.symm)]; exact h.go s h1 h2⟩
/-- Two tables apart. -/
structure Sep27 (b mb : Nat) (m : TM) (d md : Nat) (n : TM) : Prop where
  ap : ∀ k, Tb mb m k → ¬ Tb md n k
  x1 : ¬ Tb md n b
  x2 : ¬ Tb mb m d
theorem Sep27.symm {b mb d md : Nat} {m n : TM} (h : Sep27 b mb m d md n) : Sep27 d md n b mb m := ⟨fun k h1 h2 => h.ap k h2 h1, h.x2, h.x1⟩
theorem Sep27.op {w w' : World} {B b mb B2 d md : Nat} {m n m' : TM} {A' C : TA} (h : Sep27 b mb m d md n) (hT : Ts w w' B b mb m A' m') (hC : Tq w B2 d md n C) : Sep27 b mb m' d md n ∧ Tq w' B2 d md n C :=
  ⟨⟨fun k hk e => by
    rcases hT.f k hk with h1 | h1
    · exact h.ap k h1 e
    · have := (hC.z.tb e).2.1; omega, h.x1, fun e => by
    rcases hT.f d e with h1 | h1
    · exact h.x2 h1
    · have := block_lt hC.z.st; omega⟩, hC.kp hT.k h.x2 (fun k hk e => h.ap k e hk)⟩
section
variable {w : World} {B b mb : Nat} {m : TM} {A : TA}
theorem acldo1_any (h : Tq w B b mb m A) (k a : Int) (hk : 0 ≤ k ∧ k ≤ 255) (ha : -9223372036854775808 ≤ a ∧ a ≤ 9223372036854775807) (s : ByteArray) (hs : nmL [s] = [s]) (n : Nat) (hn : w.heap[n]? = some (.cells #[.string s] 9 (0, 0))) (hG : GW w) :
    Calls Tryz.prog 20 #[.pointer (some ⟨b, 0, none⟩), .slice none 0 0, .agg #[.int .u8 k, .slice (some ⟨n, 0, none⟩) 1 1, .int .i64 a]] w fun e w' => (∃ p c q ok, e = .returned (.tuple #[.slice p c q, .bool ok])) ∧ ∃ m', Ts w w' B b mb m (opX A k [s] a) m' := by
  have hdo := acldo_any (A2 := []) h (RowT.nil (w := w)) WF.nil (by decide) (fun p hp => by cases hp) 0 (Nat.le_refl _) ⟨k, [s], some ⟨n, 0, none⟩, 1, a⟩ ⟨strP_lit (zs := [s]) hn, Nat.le_refl _, by show 1 ≤ 4611686018427387904; decide, hk, ha⟩ hG
  refine hdo.mono fun e w' ⟨⟨p', c', ok, he, _, _⟩, m', hT⟩ => ⟨⟨p', _, c', ok, he⟩, m', ?_⟩
  have hT : Ts w w' B b mb m (opX A k (nmL [s]) a) m' := hT
  rwa [hs] at hT
end
theorem kA_lit (w w1 : World) (n : Nat) (h : NewB w (.cells #[.string ⟨#[97]⟩] 9 (0, 0)) n w1) : w1.heap[n]? = some (.cells #[.string kA] 9 (0, 0)) := h.block
theorem kB_lit (w w1 : World) (n : Nat) (h : NewB w (.cells #[.string ⟨#[98]⟩] 9 (0, 0)) n w1) : w1.heap[n]? = some (.cells #[.string kB] 9 (0, 0)) := h.block
theorem take_all {α : Type} {l : List α} {i : Nat} (h : l.length ≤ i) : l.take (i + 1) = l.take i := by rw [List.take_of_length_le h, List.take_of_length_le (by omega)]
theorem Pl27.mono {A : TA} {n k : Nat} (h : Pl27 A n) (hk : n ≤ k) : Pl27 A k := ⟨h.wf, Nat.le_trans h.len hk, h.sm.mono hk⟩
set_option maxHeartbeats 4000000 in
theorem lacorder_any (p0 : Option Addr) (c0 : Nat) (L0 : List OpY) (p1 : Option Addr) (c1 : Nat) (L1 : List OpY) (w : World) (hR0 : RowA opC27 3 w p0 L0) (hL0 : ∀ x ∈ L0, OpR27 w x) (hn0 : L0.length ≤ 4611686018427387904) (hR1 : RowA opC27 3 w p1 L1) (hL1 : ∀ x ∈ L1, OpR27 w x) (_hn1 : L1.length ≤ 4611686018427387904) (hG : GW w) (hGT : GT w) :
    Calls Tryz.prog 7 #[.slice p0 L0.length c0, .slice p1 L1.length c1] w fun e w' => e = .returned (.bool true) ∧ K0 w w' := by
  refine vc_aclorder p0 L0.length c0 p1 L1.length c1 w _ ⟨(acknown_any w hG hGT).mono fun e w1 ⟨he, k1⟩ => ⟨_, he, .of_k0 k1, bsp_intro (fun h => by cases h) (fun _ => ?_)⟩⟩
  refine ⟨(acnew_any w1 (gw_lt (gk0 hG k1))).mono fun e w2 ⟨⟨b, mb, he, hS2⟩, k2⟩ => ⟨_, he, .of_k0 k2, ?_⟩⟩
  have k02 := k1.trans k2
  refine ⟨(acnew_any w2 (gw_lt (gk0 hG k02))).mono fun e w3 ⟨⟨d, md, he, hT3⟩, k3⟩ => ⟨_, he, .of_k0 k3, ?_⟩⟩
  have hB1 : w.heap.size ≤ w1.heap.size := k1.size
  have hB2 : w.heap.size ≤ w2.heap.size := k02.size
  have hsep : Sep27 b mb [] d md [] := by
    have l1 := block_lt hS2.z.st
    have l2 := hS2.z.mm.lt
    have l3 := hT3.z.gb
    have l4 := hT3.z.gm
    refine ⟨fun k h1 h2 => ?_, fun h => ?_, fun h => ?_⟩
    · rcases h1 with h1 | ⟨g, x, hx, _⟩
      · rcases h2 with h2 | ⟨g, x, hx, _⟩
        · omega
        · cases hx
      · cases hx
    · rcases h with h | ⟨g, x, hx, _⟩
      · omega
      · cases hx
    · rcases h with h | ⟨g, x, hx, _⟩
      · omega
      · cases hx
  have hab0 : Ab2 [] none none := ⟨rfl, rfl, fun _ _ _ => rfl⟩
  refine ⟨fun vs w' => ∃ (i : Nat) (m : TM) (S : TA), vs = [.int .i64 (i : Int)] ∧ i ≤ L0.length ∧ i ≤ 20 ∧ Tq w' w1.heap.size b mb m S ∧ Tq w' w2.heap.size d md [] [] ∧ Sep27 b mb m d md [] ∧ Ab2 S (loF kA (L0.take i)) none ∧ Pl27 S i ∧ K0 w w',
    fun vs _ => (match vs with | .int _ a :: _ => L0.length - a.toNat | _ => 0), ⟨0, [], [], rfl, by omega, by omega, hS2.k0 k3, hT3, hsep, hab0, .nil, k02.trans k3⟩, ?_⟩
  rintro xi w4 ⟨i, m, S, hv, hi, hi2, hS4, hT4, hs4, ha4, hP4, k4⟩
  simp only [List.cons.injEq, Value.int.injEq, true_and, and_true] at hv
  subst hv
  refine bsp_intro (fun hlt W hW => ?_) (fun hge => ?_)
  · have hlt : i < L0.length ∧ i < 20 := by simp at hlt; omega
    have kW : K0 w4 W := hW.kk rfl
    obtain ⟨x, xb, xo, hx, hpx, hat⟩ := ((hR0.k0 k4).k0 kW).get hlt.1
    have hxr := hL0 x (List.mem_of_getElem? hx)
    rw [Int.toNat_natCast]
    refine ⟨fun w' => K0 W w', .refl _ _, nn_is hpx ⟨⟨by omega, by omega⟩, x.k, fun w' k => (hat.k0 k).cell (j := 0) rfl, nn_is hpx ⟨⟨by omega, by omega⟩, x.a, fun w' k => (hat.k0 k).cell (j := 2) rfl, fun n5 w5 h5 => ⟨h5.kp _, ?_⟩⟩⟩⟩
    have k5 : K0 W w5 := h5.kp _
    have k05 := (k4.trans kW).trans k5
    have k45 := kW.trans k5
    refine ⟨(acldo1_any (hS4.k0 k45) x.k x.a hxr.k hxr.a kA nmA n5 (kA_lit _ _ _ h5) (gk0 hG k05)).mono fun e w6 ⟨⟨p', n', c', ok, he⟩, m', hTs⟩ => ⟨_, _, _, _, he, ⟨Nat.le_trans k5.size hTs.k.size, fun _ hm => by cases hm⟩, ?_⟩⟩
    rw [inc64 (by omega)]
    obtain ⟨hs6, hT6⟩ := hs4.op hTs (hT4.k0 k45)
    refine ⟨⟨i + 1, m', _, rfl, by omega, by omega, hTs.t, hT6, hs6, ?_, hP4.op _ _ _, hTs.base (hS4.k0 k45).z k05 hB1⟩, by simp only [Int.toNat_natCast]; omega⟩
    rw [take_snoc hx, loF_snoc]
    exact ha4.a hP4 (by omega) _ _
  have hge : L0.length ≤ i ∨ 20 ≤ i := by simp at hge; omega
  have e20 : L0.take i = L0.take 20 := by
    rcases hge with h | h
    · rw [List.take_of_length_le h, List.take_of_length_le (by omega)]
    · rw [show i = 20 by omega]
  rw [e20] at ha4
  have hP4 := hP4.mono hi2
  clear hge e20 hi hi2
  refine ⟨fun vs w' => ∃ (j : Nat) (m n : TM) (S T : TA), vs = [.int .i64 (j : Int)] ∧ j ≤ 20 ∧ Tq w' w1.heap.size b mb m S ∧ Tq w' w2.heap.size d md n T ∧ Sep27 b mb m d md n ∧ Ab2 S (loF kA (L0.take 20)) (loF kB (L1.take j)) ∧ Ab2 T (loF kA (L0.take j)) (loF kB (L1.take j)) ∧ Pl27 S (20 + j) ∧ Pl27 T (2 * j) ∧ K0 w w',
    fun vs _ => (match vs with | .int _ a :: _ => 20 - a.toNat | _ => 0), ⟨0, m, [], S, [], rfl, by omega, hS4, hT4, hs4, ha4, hab0, hP4, .nil, k4⟩, ?_⟩
  rintro xj w5 ⟨j, m, n, S, T, hv, hj, hS5, hT5, hs5, ha5, hb5, hP5, hQ5, k5⟩
  simp only [List.cons.injEq, Value.int.injEq, true_and, and_true] at hv
  subst hv
  refine bsp_intro (fun hlt => ?_) (fun hge => ?_)
  · have hlt : j < 20 := by simp at hlt; omega
    -- the step on a, behind that on b
    have last : ∀ (w6 : World) (m n : TM) (S T : TA), Tq w6 w1.heap.size b mb m S → Tq w6 w2.heap.size d md n T → Sep27 b mb m d md n → Ab2 S (loF kA (L0.take 20)) (loF kB (L1.take (j + 1))) → Ab2 T (loF kA (L0.take j)) (loF kB (L1.take (j + 1))) → Pl27 S (20 + (j + 1)) → Pl27 T (2 * j + 1) → K0 w w6 → j < L0.length → ∀ (W : World), K0 w6 W → ∀ x, L0[j]? = some x → ∀ (n5 : Nat) (w7 : World), NewB W (.cells #[.string ⟨#[97]⟩] 9 (0, 0)) n5 w7 →
        Calls Tryz.prog 20 #[.pointer (some ⟨d, 0, none⟩), .slice none 0 0, .agg #[.int .u8 x.k, .slice (some ⟨n5, 0, none⟩) 1 1, .int .i64 x.a]] w7 fun e w8 => (∃ p c q ok, e = .returned (.tuple #[.slice p c q, .bool ok])) ∧ W.heap.size ≤ w8.heap.size ∧ ∃ (m n : TM) (S T : TA), Tq w8 w1.heap.size b mb m S ∧ Tq w8 w2.heap.size d md n T ∧ Sep27 b mb m d md n ∧ Ab2 S (loF kA (L0.take 20)) (loF kB (L1.take (j + 1))) ∧ Ab2 T (loF kA (L0.take (j + 1))) (loF kB (L1.take (j + 1))) ∧ Pl27 S (20 + (j + 1)) ∧ Pl27 T (2 * (j + 1)) ∧ K0 w w8 := by
      intro w6 m n S T hS hT hs ha hb hP hQ k6 hjl W kW x hx n5 w7 h7
      have k7 : K0 W w7 := h7.kp _
      have k67 := kW.trans k7
      have hxr := hL0 x (List.mem_of_getElem? hx)
      refine (acldo1_any (hT.k0 k67) x.k x.a hxr.k hxr.a kA nmA n5 (kA_lit _ _ _ h7) (gk0 hG (k6.trans k67))).mono fun e w8 ⟨he, n', hTs⟩ => ⟨he, Nat.le_trans k7.size hTs.k.size, m, n', S, opX T x.k [kA] x.a, ?_⟩
      obtain ⟨hs8, hS8⟩ := hs.symm.op hTs (hS.k0 k67)
      refine ⟨hS8, hTs.t, hs8.symm, ha, ?_, hP, (hQ.op _ _ _).mono (by omega), hTs.base (hT.k0 k67).z (k6.trans k67) hB2⟩
      rw [take_snoc hx, loF_snoc]
      exact hb.a hQ (by omega) _ _
    have skip : ∀ (w6 : World) (m n : TM) (S T : TA), Tq w6 w1.heap.size b mb m S → Tq w6 w2.heap.size d md n T → Sep27 b mb m d md n → Ab2 S (loF kA (L0.take 20)) (loF kB (L1.take (j + 1))) → Ab2 T (loF kA (L0.take j)) (loF kB (L1.take (j + 1))) → Pl27 S (20 + (j + 1)) → Pl27 T (2 * j + 1) → K0 w w6 → L0.length ≤ j →
        ∃ (m n : TM) (S T : TA), Tq w6 w1.heap.size b mb m S ∧ Tq w6 w2.heap.size d md n T ∧ Sep27 b mb m d md n ∧ Ab2 S (loF kA (L0.take 20)) (loF kB (L1.take (j + 1))) ∧ Ab2 T (loF kA (L0.take (j + 1))) (loF kB (L1.take (j + 1))) ∧ Pl27 S (20 + (j + 1)) ∧ Pl27 T (2 * (j + 1)) ∧ K0 w w6 := by
      intro w6 m n S T hS hT hs ha hb hP hQ k6 hjl
      exact ⟨m, n, S, T, hS, hT, hs, ha, by rw [take_all hjl]; exact hb, hP, hQ.mono (by omega), k6⟩
    rw [Int.toNat_natCast, inc64 (by omega)]
    refine bsp_intro (fun hl1 W hW => ?_) (fun hl1 => ?_)
    · have hl1 : j < L1.length := by simp at hl1; omega
      have kW : K0 w5 W := hW.kk rfl
      obtain ⟨y, yb, yo, hy, hpy, haty⟩ := ((hR1.k0 k5).k0 kW).get hl1
      have hyr := hL1 y (List.mem_of_getElem? hy)
      refine ⟨fun w' => K0 W w', .refl _ _, nn_is hpy ⟨⟨by omega, by omega⟩, y.k, fun w' k => (haty.k0 k).cell (j := 0) rfl, nn_is hpy ⟨⟨by omega, by omega⟩, y.a, fun w' k => (haty.k0 k).cell (j := 2) rfl, fun n6 w6 h6 => ⟨h6.kp _, ?_⟩⟩⟩⟩
      have k6 : K0 W w6 := h6.kp _
      have k56 := kW.trans k6
      refine ⟨(acldo1_any (hT5.k0 k56) y.k y.a hyr.k hyr.a kB nmB n6 (kB_lit _ _ _ h6) (gk0 hG (k5.trans k56))).mono fun e w7 ⟨⟨_, _, _, _, he⟩, n', hTs⟩ => ⟨_, _, _, _, he, ⟨Nat.le_trans k6.size hTs.k.size, fun _ hm => by cases hm⟩, fun W8 hW8 => ?_⟩⟩
      obtain ⟨hs7, hS7⟩ := hs5.symm.op hTs (hS5.k0 k56)
      have k07 : K0 w w7 := hTs.base (hT5.k0 k56).z (k5.trans k56) hB2
      have k8 : K0 w7 W8 := hW8.kk rfl
      have haty8 : AtL W8 yb (yo + j * 3) (opC27 y) := by
        obtain ⟨y', yb', yo', hy', hpy', haty'⟩ := (hR1.k0 (k07.trans k8)).get hl1
        rw [hy] at hy'
        cases hy'
        rw [hpy] at hpy'
        cases hpy'
        exact haty'
      refine ⟨fun w' => K0 W8 w', .refl _ _, nn_is hpy ⟨⟨by omega, by omega⟩, y.k, fun w' k => (haty8.k0 k).cell (j := 0) rfl, nn_is hpy ⟨⟨by omega, by omega⟩, y.a, fun w' k => (haty8.k0 k).cell (j := 2) rfl, fun n9 w9 h9 => ⟨h9.kp _, ?_⟩⟩⟩⟩
      have k9 : K0 W8 w9 := h9.kp _
      have k79 := k8.trans k9
      refine ⟨(acldo1_any (hS7.k0 k79) y.k y.a hyr.k hyr.a kB nmB n9 (kB_lit _ _ _ h9) (gk0 hG (k07.trans k79))).mono fun e w10 ⟨⟨_, _, _, _, he⟩, m', hTs2⟩ => ⟨_, _, _, _, he, ⟨Nat.le_trans k9.size hTs2.k.size, fun _ hm => by cases hm⟩, ?_⟩⟩
      obtain ⟨hs10, hT10⟩ := hs7.symm.op hTs2 (hTs.t.k0 k79)
      have k010 : K0 w w10 := hTs2.base (hS7.k0 k79).z (k07.trans k79) hB1
      have ha10 : Ab2 (opX S y.k [kB] y.a) (loF kA (L0.take 20)) (loF kB (L1.take (j + 1))) := by
        rw [take_snoc hy, loF_snoc]
        exact ha5.b hP5 (by omega) _ _
      have hb10 : Ab2 (opX T y.k [kB] y.a) (loF kA (L0.take j)) (loF kB (L1.take (j + 1))) := by
        rw [take_snoc hy, loF_snoc]
        exact hb5.b hQ5 (by omega) _ _
      have hP10 : Pl27 (opX S y.k [kB] y.a) (20 + (j + 1)) := hP5.op _ _ _
      have hQ10 : Pl27 (opX T y.k [kB] y.a) (2 * j + 1) := hQ5.op _ _ _
      refine bsp_intro (fun hl0 W11 hW11 => ?_) (fun hl0 => ?_)
      · have hl0 : j < L0.length := by simp at hl0; omega
        have kW11 : K0 w10 W11 := hW11.kk rfl
        obtain ⟨x, xb, xo, hx, hpx, hat⟩ := ((hR0.k0 k010).k0 kW11).get hl0
        refine ⟨fun w' => K0 W11 w', .refl _ _, nn_is hpx ⟨⟨by omega, by omega⟩, x.k, fun w' k => (hat.k0 k).cell (j := 0) rfl, nn_is hpx ⟨⟨by omega, by omega⟩, x.a, fun w' k => (hat.k0 k).cell (j := 2) rfl, fun n12 w12 h12 => ⟨h12.kp _, ?_⟩⟩⟩⟩
        exact ⟨(last _ _ _ _ _ hTs2.t hT10 hs10 ha10 hb10 hP10 hQ10 k010 hl0 W11 kW11 x hx n12 w12 h12).mono fun e w13 ⟨⟨_, _, _, _, he⟩, hsz, m, n, S, T, h1, h2, h3, h4, h5, h6, h7, h8⟩ => ⟨_, _, _, _, he, ⟨hsz, fun _ hm => by cases hm⟩, ⟨j + 1, m, n, S, T, rfl, by omega, h1, h2, h3, h4, h5, h6, h7, h8⟩, by simp only [Int.toNat_natCast]; omega⟩⟩
      · have hl0 : L0.length ≤ j := by simp at hl0; omega
        obtain ⟨m, n, S, T, h1, h2, h3, h4, h5, h6, h7, h8⟩ := skip _ _ _ _ _ hTs2.t hT10 hs10 ha10 hb10 hP10 hQ10 k010 hl0
        exact ⟨⟨j + 1, m, n, S, T, rfl, by omega, h1, h2, h3, h4, h5, h6, h7, h8⟩, by simp only [Int.toNat_natCast]; omega⟩
    · have hl1 : L1.length ≤ j := by simp at hl1; omega
      have ha6 := ha5
      have hb6 := hb5
      rw [← take_all hl1] at ha6 hb6
      refine bsp_intro (fun hl0 W11 hW11 => ?_) (fun hl0 => ?_)
      · have hl0 : j < L0.length := by simp at hl0; omega
        have kW11 : K0 w5 W11 := hW11.kk rfl
        obtain ⟨x, xb, xo, hx, hpx, hat⟩ := ((hR0.k0 k5).k0 kW11).get hl0
        refine ⟨fun w' => K0 W11 w', .refl _ _, nn_is hpx ⟨⟨by omega, by omega⟩, x.k, fun w' k => (hat.k0 k).cell (j := 0) rfl, nn_is hpx ⟨⟨by omega, by omega⟩, x.a, fun w' k => (hat.k0 k).cell (j := 2) rfl, fun n12 w12 h12 => ⟨h12.kp _, ?_⟩⟩⟩⟩
        exact ⟨(last _ _ _ _ _ hS5 hT5 hs5 ha6 hb6 (hP5.mono (by omega)) (hQ5.mono (by omega)) k5 hl0 W11 kW11 x hx n12 w12 h12).mono fun e w13 ⟨⟨_, _, _, _, he⟩, hsz, m, n, S, T, h1, h2, h3, h4, h5, h6, h7, h8⟩ => ⟨_, _, _, _, he, ⟨hsz, fun _ hm => by cases hm⟩, ⟨j + 1, m, n, S, T, rfl, by omega, h1, h2, h3, h4, h5, h6, h7, h8⟩, by simp only [Int.toNat_natCast]; omega⟩⟩
      · have hl0 : L0.length ≤ j := by simp at hl0; omega
        obtain ⟨m, n, S, T, h1, h2, h3, h4, h5, h6, h7, h8⟩ := skip _ _ _ _ _ hS5 hT5 hs5 ha6 hb6 (hP5.mono (by omega)) (hQ5.mono (by omega)) k5 hl0
        exact ⟨⟨j + 1, m, n, S, T, rfl, by omega, h1, h2, h3, h4, h5, h6, h7, h8⟩, by simp only [Int.toNat_natCast]; omega⟩
  have hj2 : j = 20 := by simp at hge; omega
  subst hj2
  have eST : S = T := ha5.eq hb5 hP5.wf hQ5.wf
  subst eST
  refine ⟨(acequal_any hS5 hT5).mono fun e w6 ⟨⟨r, he, hr⟩, k6⟩ => ⟨_, he, .of_k0 k6, bsp_intro (fun _ => ?_) (fun h => by rw [hr.2 rfl] at h; cases h)⟩⟩
  have k06 := k5.trans k6
  refine ⟨(acprint_any (hS5.k0 k6) (gk0 hG k06) (hGT.k0 k06) (fun x hx => by have := hP5.ivl hx; omega)).mono fun e w7 ⟨he, k7⟩ => ⟨_, he, .of_k0 k7, ?_⟩⟩
  have k07 := k06.trans k7
  refine ⟨(acprint_any ((hT5.k0 k6).k0 k7) (gk0 hG k07) (hGT.k0 k07) (fun x hx => by have := hP5.ivl hx; omega)).mono fun e w8 ⟨he, k8⟩ => ⟨_, he, .of_k0 k8, by rw [str_beq]; simp, k07.trans k8⟩⟩

end Go.Proofs.YtgmmoghagpmpfaaGreatDoor
