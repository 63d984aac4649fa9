/- Chapter 27: the contract of Parse. A text is not too long; the library's variable MaxLen holds a number. -/
import Derived.Test.YtgmmoghagpmpfaaGreatDoorZ11
import Derived.Test.YtgmmoghagpmpfaaGreatDoorProg
import Derived.Test.YtgmmoghagpmpfaaGreatDoorZ02
import Derived.Test.YtgmmoghagpmpfaaGreatDoorZ04
import Derived.KernelRfl
import Derived.Test.YtgmmoghagpmpfaaGreatDoorZ09
import Derived.Test.YtgmmoghagpmpfaaGreatDoorZ08
namespace Go.Proofs.YtgmmoghagpmpfaaGreatDoor
open Go.RowKit Go.Maps Go.Sort

theorem insA_end {A : TA} {k : ByteArray} {v : Gv} (h : ∀ p ∈ A, gnC p.1 k < 0) : insA gnC A k v = A ++ [(k, v)] := by
  have e1 : ∀ (l : TA), (∀ p ∈ l, gnC p.1 k < 0) → l.takeWhile (fun p => decide (gnC p.1 k < 0)) = l ∧ l.dropWhile (fun p => decide (gnC p.1 k < 0)) = [] := by
    intro l
    induction l with
    | nil => exact fun _ => ⟨rfl, rfl⟩
    | cons p r ih =>
      intro hl
      obtain ⟨i1, i2⟩ := ih (fun q hq => hl q (List.mem_cons_of_mem _ hq))
      have hp := hl p List.mem_cons_self
      rw [List.takeWhile_cons, List.dropWhile_cons, if_pos (by simpa using hp), if_pos (by simpa using hp), i1, i2]
      exact ⟨rfl, rfl⟩
  unfold insA
  rw [(e1 A h).1, (e1 A h).2]
theorem ksort_last {A : TA} (h : KSort gnC A) {k : ByteArray} (hb : ∀ p, A.getLast? = some p → gnC p.1 k < 0) : ∀ p ∈ A, gnC p.1 k < 0 := by
  have := ksort_snoc (g := (k, (⟨0, false, []⟩ : Gv))) h hb
  intro p hp
  exact (List.pairwise_append.1 this).2.2 p hp _ (List.mem_singleton.2 rfl)
theorem joinT_len {c : UInt8} : ∀ (l : List ByteArray), (∀ x ∈ l, 0 < x.size) → l.length ≤ (joinT c l).size
  | [], _ => Nat.le_refl _
  | [x], h => h x List.mem_cons_self
  | x :: y :: r, h => by
    have h1 := joinT_len (c := c) (y :: r) (fun z hz => h z (List.mem_cons_of_mem _ hz))
    have h2 := h x List.mem_cons_self
    rw [joinT_cons, ByteArray.size_append, ByteArray.size_append, size_one, List.length_cons]
    omega
theorem joinT_mem {c : UInt8} : ∀ (l : List ByteArray) (x : ByteArray), x ∈ l → x.size ≤ (joinT c l).size
  | [], _, h => by cases h
  | [y], x, h => by rw [List.mem_singleton.1 h]; exact Nat.le_refl _
  | y :: z :: r, x, h => by
    rw [joinT_cons, ByteArray.size_append, ByteArray.size_append]
    rcases List.mem_cons.1 h with rfl | h
    · omega
    · have := joinT_mem (c := c) (z :: r) x h
      omega
/-- A set has no more ranges than the table's text has bytes. -/
theorem prT_ranges {A : TA} (hA : ∀ p ∈ A, LnOK p.1 p.2) : ∀ p ∈ A, p.2.l.length ≤ (prT A).size := by
  induction A with
  | nil => intro p hp; cases hp
  | cons q A ih =>
    intro p hp
    rw [prT_cons, ByteArray.size_append]
    rcases List.mem_cons.1 hp with rfl | hp
    · have hok := hA p List.mem_cons_self
      have h1 : p.2.l.length ≤ (lnT p).size := by
        unfold lnT
        rw [ByteArray.size_append]
        cases hv : p.2.l with
        | nil => exact Nat.zero_le _
        | cons x t =>
          have hm : rngT p.2.l ∈ wdT p.1 p.2 := by unfold wdT; rw [hv]; simp
          have h2 := joinT_mem (c := 32) _ _ hm
          have h3 := joinT_len (c := 44) (p.2.l.map ivT) (fun y hy => by
            obtain ⟨z, hz, rfl⟩ := List.mem_map.1 hy
            exact ivT_pos (by have := (hok.iv.mem z hz).1; omega))
          rw [List.length_map] at h3
          have h4 : p.2.l.length ≤ (rngT p.2.l).size := h3
          rw [← hv]
          omega
      omega
    · have := ih (fun r hr => hA r (List.mem_cons_of_mem _ hr)) p hp
      omega
set_option maxHeartbeats 2000000 in
theorem acparse_any (s : ByteArray) (w : World) (hs : s.size ≤ 1048576) (hw : 0 < w.heap.size) (hG : GW w) :
    Calls Tryz.prog 13 #[.string s] w fun e w' => (match parseT s with
      | .inl A => ∃ b mb m, e = .returned (.tuple #[.pointer (some ⟨b, 0, none⟩), .int .i64 0, .int .i64 0]) ∧ Tq w' w.heap.size b mb m A
      | .inr (n, er) => e = .returned (.tuple #[.pointer none, .int .i64 (n : Nat), .int .i64 er]) ∧ er ≠ 0) ∧ K0 w w' := by
  refine vc_acparse s w _ (bsp_intro (fun h => by simp at h; omega) (fun _ => ⟨(acnew_any w hw).mono fun e w1 ⟨⟨b, mb, he, hT⟩, k1⟩ => ⟨_, he, .of_k0 k1, ?_⟩⟩))
  refine ⟨fun vs w' => ∃ (A : TA) (m : TM) (f : Nat) (bf rest : ByteArray), vs = [.pointer (some ⟨b, 0, none⟩), .string bf, .string rest, .int .i64 (A.length : Nat)] ∧ Tq w' w.heap.size b mb m A ∧ parseT s = parseA f rest (A.length + 1) bf A ∧ rest.size < f ∧ rest.size ≤ s.size ∧ bf.size ≤ 1048576 ∧ (∀ p, A.getLast? = some p → bf = p.1) ∧ K0 w w',
    fun vs _ => (match vs with | [_, _, .string r, _] => r.size | _ => 0), ⟨[], [], s.size + 1, ⟨#[]⟩, s, rfl, hT, rfl, by omega, by omega, by show 0 ≤ 1048576; omega, (fun p hp => by cases hp), k1⟩, ?_⟩
  rintro x0 x1 x2 x3 w2 ⟨A, m, f, bf, rest, hv, hT2, hE, hf, hrs, hbz, hbf, k2⟩
  simp only [List.cons.injEq, Value.pointer.injEq, Value.string.injEq, Value.int.injEq, true_and, and_true] at hv
  obtain ⟨rfl, rfl, rfl, rfl⟩ := hv
  obtain ⟨f, rfl⟩ : ∃ g, f = g + 1 := ⟨f - 1, by omega⟩
  have hE2 : parseT s = if x2.size = 0 then .inl A else if ¬ findC 10 x2 < x2.size then .inr (A.length + 1, 4) else
    match lineA (x2.extract 0 (findC 10 x2)) x1 with
    | .inr e => .inr (A.length + 1, e)
    | .inl g => if 4096 < A.length + 1 then .inr (A.length + 1, 9) else parseA f (x2.extract (findC 10 x2 + 1) x2.size) (A.length + 1 + 1) g.1 (A ++ [g]) := hE
  have hlen := hT2.len
  have hinc : IntKind.i64.wrap (((A.length : Nat) : Int) + 1) = ((A.length + 1 : Nat) : Int) := inc64 (by omega)
  have hG2 := gk0 hG k2
  rw [emB]
  refine bsp_intro (fun h0 => ?_) (fun h0 => ?_)
  · have h0 : x2.size ≠ 0 := by simpa using h0
    rw [if_neg h0] at hE2
    refine ⟨(cut27_any 10 x2 w2 (by omega) hG2).mono fun e w3 ⟨he, k3⟩ => ⟨_, _, _, he, .of_k0 k3, ?_⟩⟩
    have k03 := k2.trans k3
    by_cases hk : findC 10 x2 < x2.size
    · rw [if_neg (by simpa using hk)] at hE2
      rw [if_pos hk, if_pos hk, decide_eq_true hk]
      have z1 : (x2.extract 0 (findC 10 x2)).size ≤ 1048576 := by rw [ByteArray.size_extract]; omega
      have z2 : (x2.extract (findC 10 x2 + 1) x2.size).size < x2.size := by rw [ByteArray.size_extract]; omega
      refine bsp_intro (fun h => by cases h) (fun _ => ⟨(acpline_any (x2.extract 0 (findC 10 x2)) x1 w3 z1 hbz (gk0 hG k03)).mono fun e w4 hP => ?_⟩)
      unfold PLn at hP
      obtain ⟨hP, k4⟩ := hP
      have k04 := k03.trans k4
      cases hl : lineA (x2.extract 0 (findC 10 x2)) x1 with
      | inr er =>
        rw [hl] at hP hE2
        obtain ⟨he0, he⟩ := hP
        refine ⟨_, _, _, _, _, _, _, he, .of_k0 k4, fun n1 => bsp_intro (fun _ W hW => ?_) (fun h => by simp at h; exact absurd h he0)⟩
        rw [hE2, hinc]
        exact ⟨⟨rfl, he0⟩, hW.k0 k04⟩
      | inl g =>
        rw [hl] at hP hE2
        obtain ⟨p, c, he, ho⟩ := hP
        obtain ⟨g1, g2, g3⟩ := lineA_ok hl
        have hgz := name_size g1.nm
        refine ⟨_, _, _, _, _, _, _, he, .of_k0 k4, fun n1 => bsp_intro (fun h => by simp at h) (fun _ => ?_)⟩
        rw [hinc]
        refine bsp_intro (fun h9 W hW => ?_) (fun h9 => nn_is rfl ⟨some mb, fun W hW => (hT2.k0 ((k3.trans k4).trans (hW.kk rfl))).z.cM, fun W hW => ?_⟩)
        · have h9 : 4096 < A.length + 1 := by simp at h9; omega
          simp only at hE2
          rw [if_pos h9] at hE2
          rw [hE2]
          exact ⟨⟨rfl, by decide⟩, hW.k0 k04⟩
        · have h9 : ¬ 4096 < A.length + 1 := by simp at h9; omega
          simp only at hE2
          rw [if_neg h9] at hE2
          have k2W : K0 w2 W := (k3.trans k4).trans (hW.kk rfl)
          have hall : ∀ q ∈ A, gnC q.1 g.1 < 0 := ksort_last hT2.wf.sort (fun q hq => by
            have e := hbf q hq
            rw [← e]
            refine g2 (fun e2 => ?_)
            have := (name_no (hT2.wf.nm q (List.mem_of_getLast? hq))).1
            rw [← e] at this
            omega)
          have hins := insA_end (v := g.2) hall
          have hnone : aget A g.1 = none := by
            rw [aget_none]
            intro q hq e
            have := hall q hq
            rw [e, gnC_ord.self] at this
            omega
          have hmn : aget m g.1 = none := by
            have := hT2.get g.1
            rw [hnone] at this
            cases hx : aget m g.1 with
            | none => rfl
            | some y => rw [hx] at this; cases this
          have hm : ∀ {q}, q ∈ A ++ [g] → q ∈ A ∨ q = g := fun hp => by
            rcases List.mem_append.1 hp with h | h
            · exact .inl h
            · exact .inr (List.mem_singleton.1 h)
          have hw2 : WF (A ++ [g]) := ⟨ksort_snoc hT2.wf.sort (fun q hq => hall q (List.mem_of_getLast? hq)), fun p hp => by rcases hm hp with h | rfl; exact hT2.wf.nm p h; exact g1.nm, fun p hp => by rcases hm hp with h | rfl; exact hT2.wf.hi p h; exact ⟨g1.h0, g1.hi⟩, fun p hp => by rcases hm hp with h | rfl; exact hT2.wf.iv p h; exact g1.iv⟩
          have hoW : Gx.own W w.heap.size ⟨g.2, p, c⟩ := owns_kp (own_base ho k03.size) (hW.kk rfl : K0 w4 W) (fun _ _ h => h)
          obtain ⟨w5, hu, hT5, k5⟩ := Ts.ins (w := W) hT2 (x := ⟨g.2, p, c⟩) hmn k2W (by omega) hoW (fun k (hk : (Value.slice p g.2.l.length c).ownBlock = some k) => by have := own_ge ho hk; have := k3.size; omega) (by show WF (insA gnC A g.1 g.2); rw [hins]; exact hw2) (by omega)
          have hA5 : insA gnC A g.1 (⟨g.2, p, c⟩ : Gx).v = A ++ [g] := hins
          rw [hA5] at hT5
          have hl1 : (A ++ [g]).length = A.length + 1 := by simp
          refine ⟨w5, hu, hT2.z.keptL k5 (fun k hk => by simp only [List.mem_cons, List.not_mem_nil, or_false] at hk; rw [hk]; have : w4.heap.size ≤ n1 := hW.fresh 0 rfl rfl; have := k3.size; have := k4.size; omega), ⟨A ++ [g], _, f, g.1, x2.extract (findC 10 x2 + 1) x2.size, by rw [hl1], hT5.t, by rw [hE2, hl1], by omega, by omega, by omega, fun q hq => by simp at hq; rw [← hq], hT5.base hT2.z k2 (Nat.le_refl _)⟩, z2⟩
    · rw [if_pos hk] at hE2
      rw [decide_eq_false hk]
      refine bsp_intro (fun _ => ?_) (fun h => by cases h)
      rw [hE2, hinc]
      exact ⟨⟨rfl, by decide⟩, k03⟩
  · have h0 : x2.size = 0 := by simpa using h0
    rw [if_pos h0] at hE2
    rw [hE2]
    exact ⟨⟨b, mb, m, rfl, hT2⟩, k2⟩

end Go.Proofs.YtgmmoghagpmpfaaGreatDoor

/- The formulas of functions by the symbolic evaluator, and that each gives the call's contract. Written by a program (gen.py). No condition. -/
namespace Go.Proofs.YtgmmoghagpmpfaaGreatDoor
set_option maxRecDepth 100000
set_option linter.unusedVariables false

def VC_aclknown (w : World) (R : Ending → World → Prop) : Prop :=
 CallsS Tryz.prog 19 #[] w fun (e : Ending) (w' : World) =>
 ∃ (x : Option Addr),
 e = Ending.returned (Value.pointer x) ∧
 KeptL [] w w' ∧
 bsp x.isNone (R (Ending.returned (Value.bool false)) w')
 (CallsS Tryz.prog 31 #[Value.pointer x, Value.string (ByteArray.mk #[97])] w' fun (e : Ending) (w'_1 : World) =>
 ∃ (x_1 : Int),
 e = Ending.returned (Value.int IntKind.i64 x_1) ∧
 KeptL [] w' w'_1 ∧
 ∀ (n : Nat) (W : World),
 Loc w.heap.size [Blk.mk n 9 [Value.string (ByteArray.mk #[97])] 2] w'_1 W →
 CallsS Tryz.prog 27 #[Value.pointer x, Value.slice (some (Addr.mk n 0 none)) 1 1] W
 fun (e : Ending) (w' : World) =>
 ∃ (p : Option Addr),
 ∃ (n : Nat),
 ∃ (c : Nat),
 ∃ (x_2 : Int),
 e = Ending.returned (Value.tuple #[Value.slice p n c, Value.int IntKind.i64 x_2]) ∧
 KeptL [] W w' ∧
 ∀ (n_1 : Nat) (W : World),
 Loc w.heap.size [Blk.mk n_1 9 [Value.string (ByteArray.mk #[97])] 2] w' W →
 CallsS Tryz.prog 27 #[Value.pointer x, Value.slice (some (Addr.mk n_1 0 none)) 1 1] W
 fun (e : Ending) (w' : World) =>
 ∃ (p_1 : Option Addr),
 ∃ (n_2 : Nat),
 ∃ (c : Nat),
 ∃ (x_3 : Int),
 e = Ending.returned (Value.tuple #[Value.slice p_1 n_2 c, Value.int IntKind.i64 x_3]) ∧
 KeptL [] W w' ∧
 ∀ (n_3 : Nat) (W : World),
 Loc w.heap.size [Blk.mk n_3 9 [Value.string (ByteArray.mk #[97])] 2] w' W →
 CallsS Tryz.prog 27 #[Value.pointer x, Value.slice (some (Addr.mk n_3 0 none)) 1 1] W
 fun (e : Ending) (w' : World) =>
 ∃ (p_2 : Option Addr),
 ∃ (n_4 : Nat),
 ∃ (c : Nat),
 ∃ (x_4 : Int),
 e =
 Ending.returned (Value.tuple #[Value.slice p_2 n_4 c, Value.int IntKind.i64 x_4]) ∧
 KeptL [] W w' ∧
 CallsS Tryz.prog 33
 #[Value.pointer x,
 Value.agg #[Value.string (ByteArray.mk #[97]), Value.int IntKind.i64 2]]
 w' fun (e : Ending) (w'_2 : World) =>
 ∃ (x_5 : Int),
 e = Ending.returned (Value.int IntKind.i64 x_5) ∧
 KeptL [] w' w'_2 ∧
 CallsS Tryz.prog 16 #[Value.pointer x, Value.string (ByteArray.mk #[97])] w'_2
 fun (e : Ending) (w' : World) =>
 ∃ (x_6 : ByteArray),
 ∃ (x_7 : Int),
 ∃ (x_8 : Int),
 ∃ (x_9 : Int),
 ∃ (x_10 : Bool),
 ∃ (x_11 : Int),
 e =
 Ending.returned
 (Value.tuple
 #[Value.agg
 #[Value.string x_6, Value.int IntKind.i64 x_7,
 Value.int IntKind.i64 x_8, Value.int IntKind.i64 x_9,
 Value.bool x_10],
 Value.int IntKind.i64 x_11]) ∧
 KeptL [] w'_2 w' ∧
 ∀ (n_5 : Nat) (W : World),
 Loc w.heap.size
 [Blk.mk n_5 31
 [Value.string x_6, Value.int IntKind.i64 x_7,
 Value.int IntKind.i64 x_8, Value.int IntKind.i64 x_9,
 Value.bool x_10]
 (wrM 2)]
 w' W →
 CallsS Tryz.prog 13
 #[Value.string
 (ByteArray.mk #[97, 32, 51, 32, 121, 32, 50, 44, 49, 10])]
 W fun (e : Ending) (w' : World) =>
 ∃ (x_12 : Option Addr),
 ∃ (x_13 : Int),
 ∃ (x_14 : Int),
 e =
 Ending.returned
 (Value.tuple
 #[Value.pointer x_12, Value.int IntKind.i64 x_13,
 Value.int IntKind.i64 x_14]) ∧
 KeptL [n_5] W w' ∧
 CallsS Tryz.prog 13
 #[Value.string
 (ByteArray.mk #[97, 32, 51, 32, 121, 32, 49, 44, 51, 10])]
 w' fun (e : Ending) (w'_3 : World) =>
 ∃ (x_15 : Option Addr),
 ∃ (x_16 : Int),
 ∃ (x_17 : Int),
 e =
 Ending.returned
 (Value.tuple
 #[Value.pointer x_15, Value.int IntKind.i64 x_16,
 Value.int IntKind.i64 x_17]) ∧
 KeptL [n_5] w' w'_3 ∧
 nn (x_1 == 0 && x_2 == 0 && (↑n : Int) == 1) p
 fun (b o : Nat) =>
 gimp (x_1 == 0 && x_2 == 0 && (↑n : Int) == 1)
 ((0 : Int) ≤ 0 ∧ 0 < (↑n : Int)) ∧
 ∃ (x_18 : ByteArray),
 ∃ (x_19 : Int),
 gimp (x_1 == 0 && x_2 == 0 && (↑n : Int) == 1)
 (AtL w'_3 b o
 [Value.string x_18, Value.int IntKind.i64 x_19]) ∧
 ∃ (r : Bool),
 gimp (x_1 == 0 && x_2 == 0 && (↑n : Int) == 1)
 (EqP Tryz.prog 64
 (Value.agg
 #[Value.string x_18,
 Value.int IntKind.i64 x_19])
 (Value.agg
 #[Value.string (ByteArray.mk #[97]),
 Value.int IntKind.i64 1])
 r) ∧
 ∃ (r_1 : Bool),
 gimp
 (x_1 == 0 && x_2 == 0 && (↑n : Int) == 1 &&
 r &&
 x_5 == 0 &&
 x_11 == 0)
 (EqP Tryz.prog 31
 (Value.agg
 #[Value.string x_6,
 Value.int IntKind.i64 x_7,
 Value.int IntKind.i64 x_8,
 Value.int IntKind.i64 x_9, Value.bool x_10])
 (Value.agg
 #[Value.string (ByteArray.mk #[97]),
 Value.int IntKind.i64 1,
 Value.int IntKind.i64 3,
 Value.int IntKind.i64 2, Value.bool false])
 r_1) ∧
 bsp
 (x_1 == 0 && x_2 == 0 && (↑n : Int) == 1 &&
 r &&
 x_5 == 0 &&
 x_11 == 0 &&
 r_1)
 (CallsS Tryz.prog 17 #[Value.pointer x] w'_3
 fun (e : Ending) (w' : World) =>
 ∃ (x_20 : ByteArray),
 e = Ending.returned (Value.string x_20) ∧
 KeptL [n_5] w'_3 w' ∧
 bsp
 (true &&
 x_20.toList ==
 [(ByteArray.mk
 #[97, 32, 51, 32, 121, 32, 49,
 44, 51, 10]).get!
 0,
 (ByteArray.mk
 #[97, 32, 51, 32, 121, 32, 49,
 44, 51, 10]).get!
 1,
 (ByteArray.mk
 #[97, 32, 51, 32, 121, 32, 49,
 44, 51, 10]).get!
 2,
 (ByteArray.mk
 #[97, 32, 51, 32, 121, 32, 49,
 44, 51, 10]).get!
 3,
 (ByteArray.mk
 #[97, 32, 51, 32, 121, 32, 49,
 44, 51, 10]).get!
 4,
 (ByteArray.mk
 #[97, 32, 51, 32, 121, 32, 49,
 44, 51, 10]).get!
 5,
 (ByteArray.mk
 #[97, 32, 51, 32, 121, 32, 49,
 44, 51, 10]).get!
 6,
 (ByteArray.mk
 #[97, 32, 51, 32, 121, 32, 49,
 44, 51, 10]).get!
 7,
 (ByteArray.mk
 #[97, 32, 51, 32, 121, 32, 49,
 44, 51, 10]).get!
 8,
 (ByteArray.mk
 #[97, 32, 51, 32, 121, 32, 49,
 44, 51, 10]).get!
 9] &&
 x_13 == 1 &&
 x_14 == 3 &&
 x_17 == 0 &&
 !x_15.isNone)
 (CallsS Tryz.prog 24
 #[Value.pointer x_15, Value.pointer x] w'
 fun (e : Ending) (w'_4 : World) =>
 ∃ (x : Bool),
 e = Ending.returned (Value.bool x) ∧
 KeptL [n_5] w' w'_4 ∧
 R
 (Ending.returned
 (Value.bool (true && x)))
 w'_4)
 (KeptL [n_5] w' w' ∧
 R (Ending.returned (Value.bool false))
 w'))
 (KeptL [n_5] w'_3 w'_3 ∧
 KeptL [n_5] w'_3 w'_3 ∧
 R (Ending.returned (Value.bool false)) w'_3))
theorem vc_aclknown (w : World) (R : Ending → World → Prop) (h : VC_aclknown w R) : Calls Tryz.prog 15 ([] : List Value).toArray w R := by
  have e : execR2 { P := Tryz.prog, loops := [], pur := pur1, tails := [], joins := [], boxes := [] } Tryz.f15.results.toList R (Tryz.f15.body.getD .skip) (initF [] (Tryz.f15.ntmps - ([] : List Value).length)) w = VC_aclknown w R := by kernel_rfl
  have hb : Tryz.f15.body = some (Tryz.f15.body.getD .skip) := by kernel_rfl
  exact calls_of_exec2' (P := Tryz.prog) (fn := Tryz.f15) (c := Tryz.f15.body.getD .skip) (args := []) (w := w) (R := R) pur1_ok Tryz.func15 hb e h

end Go.Proofs.YtgmmoghagpmpfaaGreatDoor

/- Chapter 27: the examples of the chapter hold: known returns true. The library's variable MaxLen holds a number, its table of powers of ten reads as laid. -/
namespace Go.Proofs.YtgmmoghagpmpfaaGreatDoor
open Go.RowKit Go.Maps Go.Sort

theorem gw_lt {w : World} (h : GW w) : 0 < w.heap.size := by
  obtain ⟨m, hm⟩ := h
  rcases Nat.lt_or_ge 0 w.heap.size with h' | h'
  · exact h'
  · unfold World.cell? at hm
    simp only [Array.getElem?_eq_none h'] at hm
    cases hm
def kA : ByteArray := ⟨#[97]⟩
def kT1 : ByteArray := ⟨#[97, 32, 51, 32, 121, 32, 50, 44, 49, 10]⟩
def kT2 : ByteArray := ⟨#[97, 32, 51, 32, 121, 32, 49, 44, 51, 10]⟩
def tA (h : Int) (l : List Iv) : TA := [(kA, ⟨h, false, l⟩)]
section
set_option maxRecDepth 100000
theorem kn0 : opA [] kA = (tA 0 [], 0) := by kernel_rfl
theorem kn1 : asR (tA 0 []) [kA] = (tA 1 [⟨1, 1⟩], [1], 0) := by kernel_rfl
theorem kn2 : asR (tA 1 [⟨1, 1⟩]) [kA] = (tA 2 [⟨1, 2⟩], [2], 0) := by kernel_rfl
theorem kn3 : asR (tA 2 [⟨1, 2⟩]) [kA] = (tA 3 [⟨1, 3⟩], [3], 0) := by kernel_rfl
theorem kn4 : rmA (tA 3 [⟨1, 3⟩]) kA 2 = (tA 3 [⟨1, 1⟩, ⟨3, 3⟩], 0) := by kernel_rfl
theorem kn5 : aget (tA 3 [⟨1, 1⟩, ⟨3, 3⟩]) kA = some ⟨3, false, [⟨1, 1⟩, ⟨3, 3⟩]⟩ := by kernel_rfl
theorem kn6 : parseT kT1 = .inr (1, 3) := by kernel_rfl
theorem kn7 : parseT kT2 = .inl (tA 3 [⟨1, 1⟩, ⟨3, 3⟩]) := by kernel_rfl
end
theorem kn8 : prT (tA 3 [⟨1, 1⟩, ⟨3, 3⟩]) = kT2 := (parse_ok kn7).2.2
theorem row_lit {w : World} {n : Nat} {t : TypeId} {f : Nat × Nat} (h : w.heap[n]? = some (.cells #[.string kA] t f)) : StrP w (some ⟨n, 0, none⟩) [kA] := strP_lit (zs := [kA]) h
theorem ty_lit {w : World} {n : Nat} {c : Array Value} {t : TypeId} {f : Nat × Nat} (h : w.heap[n]? = some (.cells c t f)) : TyN t w (some ⟨n, 0, none⟩) := fun g o e => by
  cases e
  exact ⟨_, _, h⟩
set_option maxHeartbeats 4000000 in
set_option maxRecDepth 100000 in
theorem acknown_any (w : World) (hG : GW w) (hT : GT w) : Calls Tryz.prog 15 #[] w fun e w' => e = .returned (.bool true) ∧ K0 w w' := by
  have hw := gw_lt hG
  refine vc_aclknown w _ ?_
  refine ⟨(acnew_any w hw).mono fun e w1 ⟨⟨b, mb, he, hT1⟩, k1⟩ => ⟨_, he, .of_k0 k1, bsp_intro (fun h => by cases h) (fun _ => ?_)⟩⟩
  refine ⟨(acopen_any hT1 kA (by decide) (gk0 hG k1)).mono fun e w2 ⟨he, m2, hT2⟩ => ?_⟩
  rw [kn0] at he hT2
  have k2 : K0 w w2 := hT2.base hT1.z k1 (Nat.le_refl _)
  refine ⟨_, he, ⟨hT2.k.size, fun _ hm => by cases hm⟩, fun n1 W2 hW2 => ?_⟩
  have kW2 : K0 w W2 := k2.trans (hW2.kk rfl)
  have hTW2 := hT2.t.k0 (hW2.kk rfl)
  refine ⟨(acassign_any hTW2 [kA] (some ⟨n1, 0, none⟩) 1 (row_lit (hW2.cells 0 rfl)) (ty_lit (hW2.cells 0 rfl)) (by decide) (by decide) (by decide)).mono fun e w3 ⟨⟨p3, c3, he, hr3, ht3⟩, m3, hT3⟩ => ?_⟩
  rw [kn1] at he hr3 hT3
  have k3 : K0 w w3 := hT3.base hTW2.z kW2 (Nat.le_refl _)
  refine ⟨_, _, _, _, he, ⟨hT3.k.size, fun _ hm => by cases hm⟩, fun n2 W3 hW3 => ?_⟩
  have kW3 : K0 w W3 := k3.trans (hW3.kk rfl)
  have hTW3 := hT3.t.k0 (hW3.kk rfl)
  refine ⟨(acassign_any hTW3 [kA] (some ⟨n2, 0, none⟩) 1 (row_lit (hW3.cells 0 rfl)) (ty_lit (hW3.cells 0 rfl)) (by decide) (by decide) (by decide)).mono fun e w4 ⟨⟨p4, c4, he, _, _⟩, m4, hT4⟩ => ?_⟩
  rw [kn2] at he hT4
  have k4 : K0 w w4 := hT4.base hTW3.z kW3 (Nat.le_refl _)
  refine ⟨_, _, _, _, he, ⟨hT4.k.size, fun _ hm => by cases hm⟩, fun n3 W4 hW4 => ?_⟩
  have kW4 : K0 w W4 := k4.trans (hW4.kk rfl)
  have hTW4 := hT4.t.k0 (hW4.kk rfl)
  refine ⟨(acassign_any hTW4 [kA] (some ⟨n3, 0, none⟩) 1 (row_lit (hW4.cells 0 rfl)) (ty_lit (hW4.cells 0 rfl)) (by decide) (by decide) (by decide)).mono fun e w5 ⟨⟨p5, c5, he, _, _⟩, m5, hT5⟩ => ?_⟩
  rw [kn3] at he hT5
  have k5 : K0 w w5 := hT5.base hTW4.z kW4 (Nat.le_refl _)
  refine ⟨_, _, _, _, he, ⟨hT5.k.size, fun _ hm => by cases hm⟩, ?_⟩
  refine ⟨(acremove_any hT5.t kA (by decide) 2 (by decide)).mono fun e w6 ⟨he, m6, hT6⟩ => ?_⟩
  rw [kn4] at he hT6
  have k6 : K0 w w6 := hT6.base hT5.t.z k5 (Nat.le_refl _)
  refine ⟨_, he, ⟨hT6.k.size, fun _ hm => by cases hm⟩, ?_⟩
  refine ⟨(acget_any hT6.t kA (by decide)).mono fun e w7 ⟨he, k67⟩ => ?_⟩
  rw [kn5] at he
  have k7 := k6.trans k67
  refine ⟨_, _, _, _, _, _, he, .of_k0 k67, fun n5 W7 hW7 => ?_⟩
  have kW7 : K0 w W7 := k7.trans (hW7.kk rfl)
  refine ⟨(acparse_any kT1 W7 (by decide) (gw_lt (gk0 hG kW7)) (gk0 hG kW7)).mono fun e w8 hP8 => ?_⟩
  rw [kn6] at hP8
  obtain ⟨⟨he, _⟩, k8⟩ := hP8
  refine ⟨_, _, _, he, .of_k0 k8, ?_⟩
  have k08 := kW7.trans k8
  refine ⟨(acparse_any kT2 w8 (by decide) (gw_lt (gk0 hG k08)) (gk0 hG k08)).mono fun e w9 hP9 => ?_⟩
  rw [kn7] at hP9
  obtain ⟨⟨b9, mb9, m9, he, hT9⟩, k9⟩ := hP9
  refine ⟨_, _, _, he, .of_k0 k9, ?_⟩
  have k09 := k08.trans k9
  have nt : ∀ {w : World} {B b mb : Nat} {m : TM} {A : TA} (h : Tq w B b mb m A) (k : Nat) (c : Array Value) (f : Nat × Nat), w.heap[k]? = some (.cells c 64 f) → ¬ Tb mb m k := fun h k c f hc => h.z.not_ty hc (by decide)
  have r1 := hr3.k0 (hW3.kk rfl)
  have t1 := ht3.k0 (hW3.kk rfl)
  have r2 := (r1.kpT t1 hT4.k (nt hTW3)).k0 (hW4.kk rfl)
  have t2 := (t1.kp hT4.k (nt hTW3)).k0 (hW4.kk rfl)
  have r3 := r2.kpT t2 hT5.k (nt hTW4)
  have t3 := t2.kp hT5.k (nt hTW4)
  have r4 := (r3.kpT t3 hT6.k (nt hT5.t)).k0 (((k67.trans (hW7.kk rfl)).trans k8).trans k9)
  obtain ⟨gb, go, hp3, hat⟩ := r4 0 (kA, 1) rfl
  rw [Nat.zero_mul, Nat.add_zero] at hat
  have hT69 := hT6.t.k0 (((k67.trans (hW7.kk rfl)).trans k8).trans k9)
  refine nn_is hp3 ⟨gimp_intro fun _ => by decide, kA, 1, gimp_intro fun _ => hat, _, gimp_intro fun _ => plEq27 kA kA 1 1, _, gimp_intro fun _ => grEq27 kA kA _ _ _ _ _ _ _ _, bsp_intro (fun _ => ?_) (fun h => ?_)⟩
  · refine ⟨(acprint_any hT69 (gk0 hG k09) (hT.k0 k09) (by decide)).mono fun e w10 ⟨he, k10⟩ => ?_⟩
    rw [kn8] at he
    have k010 := k09.trans k10
    refine ⟨_, he, .of_k0 k10, bsp_intro (fun _ => ?_) (fun h => ?_)⟩
    · exact ⟨(acequal_any (hT9.k0 k10) (hT69.k0 k10)).mono fun e w11 ⟨⟨r, he, hr⟩, k11⟩ => ⟨r, he, .of_k0 k11, by rw [hr.2 rfl]; exact ⟨rfl, k010.trans k11⟩⟩⟩
    · exact absurd h (by simp only [Option.isNone_some, Bool.not_false, Bool.and_true]; decide +kernel)
  · exact absurd h (by decide +kernel)

end Go.Proofs.YtgmmoghagpmpfaaGreatDoor

/- The formulas of functions by the symbolic evaluator, and that each gives the call's contract. Written by a program (gen.py). No condition. -/
namespace Go.Proofs.YtgmmoghagpmpfaaGreatDoor
set_option maxRecDepth 100000
set_option linter.unusedVariables false

def VC_aclnames (p : Option Addr) (n : Nat) (c : Nat) (w : World) (R : Ending → World → Prop) : Prop :=
 ∃ (I : List Value → World → Prop),
 ∃ (m : List Value → World → Nat),
 I [Value.int IntKind.i64 0, Value.slice none 0 0] w ∧
 ∀ (x : Int) (p_1 : Option Addr) (n_1 c : Nat) (w' : World),
 I [Value.int IntKind.i64 x, Value.slice p_1 n_1 c] w' →
 bsp (decide (x < (↑n : Int)) && decide (x < 4))
 (∀ (W : World),
 Loc w.heap.size [] w' W →
 ∃ (S : World → Prop),
 S W ∧
 nn true p fun (b o : Nat) =>
 (0 ≤ x ∧ x < (↑n : Int)) ∧
 ∃ (x_1 : ByteArray),
 (∀ (w' : World), S w' → w'.cell? (Addr.mk b (o + x.toNat) none) = some (Value.string x_1)) ∧
 nn true p fun (b o : Nat) =>
 (0 ≤ x ∧ x < (↑n : Int)) ∧
 ∃ (x_2 : ByteArray),
 (∀ (w' : World), S w' → w'.cell? (Addr.mk b (o + x.toNat) none) = some (Value.string x_2)) ∧
 ((0 ≤ if 100 < (↑x_2.size : Int) then 100 else (↑x_2.size : Int)) ∧
 (if 100 < (↑x_2.size : Int) then 100 else (↑x_2.size : Int)) ≤ (↑x_1.size : Int)) ∧
 ∀ (n : Nat) (w1 : World),
 NewB W
 (Obj.cells
 #[Value.string
 (x_1.extract 0 (if 100 < (↑x_2.size : Int) then 100 else (↑x_2.size : Int)).toNat)]
 9)
 n w1 →
 ∃ (base : Nat),
 ∃ (xs : List Value),
 ∃ (news : List Value),
 w1.ownsRow base 9 1 (Value.slice p_1 n_1 c) n_1 xs ∧
 news.length = 1 ∧
 SrcP w1 (some (Addr.mk n 0 none)) news ∧
 n_1 + 1 ≤ 9223372036854775807 ∧
 (n_1 + 1) * 16 ≤ 140737488355328 ∧
 base ≤ w1.heap.size ∧
 ∀ (p' : Option Addr) (c' : Nat) (w'_1 : World),
 w'_1.ownsRow base 9 1 (Value.slice p' (n_1 + 1) c') (n_1 + 1) (xs ++ news) →
 w1.grownBy w'_1 (Value.slice p_1 n_1 c).ownBlock →
 AppL w1 p_1 n_1 c 1 p' c' →
 KeptL [] W w'_1 ∧
 I [Value.int IntKind.i64 (IntKind.i64.wrap (x + 1)), Value.slice p' (n_1 + 1) c']
 w'_1 ∧
 m [Value.int IntKind.i64 (IntKind.i64.wrap (x + 1)), Value.slice p' (n_1 + 1) c']
 w'_1 <
 m [Value.int IntKind.i64 x, Value.slice p_1 n_1 c] w')
 (R (Ending.returned (Value.slice p_1 n_1 c)) w')
theorem vc_aclnames (p : Option Addr) (n : Nat) (c : Nat) (w : World) (R : Ending → World → Prop) (h : VC_aclnames p n c w R) : Calls Tryz.prog 28 ([Value.slice
    p n c] : List Value).toArray w R := by
  have e : execR2 { P := Tryz.prog, loops := [(3, [(4, Ck.int IntKind.i64), (3, Ck.slice)])], pur := pur1, tails := [(5, 12)], joins := [], boxes := [] } Tryz.f28.results.toList R (Tryz.f28.body.getD .skip) (initF [Value.slice
    p n c] (Tryz.f28.ntmps - ([Value.slice p n c] : List Value).length)) w = VC_aclnames p n c w R := by kernel_rfl
  have hb : Tryz.f28.body = some (Tryz.f28.body.getD .skip) := by kernel_rfl
  exact calls_of_exec2' (P := Tryz.prog) (fn := Tryz.f28) (c := Tryz.f28.body.getD .skip) (args := [Value.slice p n
    c]) (w := w) (R := R) pur1_ok Tryz.func28 hb e h

def VC_aclfirst (p : Option Addr) (n : Nat) (c : Nat) (w : World) (R : Ending → World → Prop) : Prop :=
 bsp ((↑n : Int) == 0) (R (Ending.returned (Value.string (ByteArray.mk #[]))) w)
 (nn true p fun (b o : Nat) =>
 ((0 : Int) ≤ 0 ∧ 0 < (↑n : Int)) ∧
 ∃ (x : ByteArray), w.cell? (Addr.mk b o none) = some (Value.string x) ∧ R (Ending.returned (Value.string x)) w)
theorem vc_aclfirst (p : Option Addr) (n : Nat) (c : Nat) (w : World) (R : Ending → World → Prop) (h : VC_aclfirst p n c w R) : Calls Tryz.prog 32 ([Value.slice
    p n c] : List Value).toArray w R := by
  have e : execR2 { P := Tryz.prog, loops := [], pur := pur1, tails := [], joins := [], boxes := [] } Tryz.f32.results.toList R (Tryz.f32.body.getD .skip) (initF [Value.slice
    p n c] (Tryz.f32.ntmps - ([Value.slice p n c] : List Value).length)) w = VC_aclfirst p n c w R := by kernel_rfl
  have hb : Tryz.f32.body = some (Tryz.f32.body.getD .skip) := by kernel_rfl
  exact calls_of_exec2' (P := Tryz.prog) (fn := Tryz.f32) (c := Tryz.f32.body.getD .skip) (args := [Value.slice p n
    c]) (w := w) (R := R) pur1_ok Tryz.func32 hb e h

def VC_aclequal (p : Option Addr) (n : Nat) (c : Nat) (q : Option Addr) (k : Nat) (d : Nat) (w : World) (R : Ending → World → Prop) : Prop :=
 bsp ((↑n : Int) != (↑k : Int)) (R (Ending.returned (Value.bool false)) w)
 (∃ (I : List Value → World → Prop),
 ∃ (m : List Value → World → Nat),
 I [Value.int IntKind.i64 0] w ∧
 ∀ (x : Int) (w' : World),
 I [Value.int IntKind.i64 x] w' →
 bsp (decide (x < (↑n : Int)))
 (nn true p fun (b o : Nat) =>
 (0 ≤ x ∧ x < (↑n : Int)) ∧
 ∃ (x_1 : Int),
 (∀ (W : World),
 Loc w.heap.size [] w' W → W.cell? (Addr.mk b (o + x.toNat) none) = some (Value.int IntKind.i64 x_1)) ∧
 nn true q fun (b o : Nat) =>
 (0 ≤ x ∧ x < (↑k : Int)) ∧
 ∃ (x_2 : Int),
 (∀ (W : World),
 Loc w.heap.size [] w' W → W.cell? (Addr.mk b (o + x.toNat) none) = some (Value.int IntKind.i64 x_2)) ∧
 bsp (x_1 != x_2) (∀ (W : World), Loc w.heap.size [] w' W → R (Ending.returned (Value.bool false)) W)
 (∀ (W : World),
 Loc w.heap.size [] w' W →
 I [Value.int IntKind.i64 (IntKind.i64.wrap (x + 1))] W ∧
 m [Value.int IntKind.i64 (IntKind.i64.wrap (x + 1))] W < m [Value.int IntKind.i64 x] w'))
 (R (Ending.returned (Value.bool true)) w'))
theorem vc_aclequal (p : Option Addr) (n : Nat) (c : Nat) (q : Option Addr) (k : Nat) (d : Nat) (w : World) (R : Ending → World → Prop) (h : VC_aclequal p n c q k d w R) : Calls Tryz.prog 39 ([Value.slice
    p n c,
  Value.slice q k d] : List Value).toArray w R := by
  have e : execR2 { P := Tryz.prog, loops := [(4, [(5, Ck.int IntKind.i64)])], pur := pur1, tails := [], joins := [], boxes := [] } Tryz.f39.results.toList R (Tryz.f39.body.getD .skip) (initF [Value.slice
    p n c,
  Value.slice q k
    d] (Tryz.f39.ntmps - ([Value.slice p n c,
  Value.slice q k d] : List Value).length)) w = VC_aclequal p n c q k d w R := by kernel_rfl
  have hb : Tryz.f39.body = some (Tryz.f39.body.getD .skip) := by kernel_rfl
  exact calls_of_exec2' (P := Tryz.prog) (fn := Tryz.f39) (c := Tryz.f39.body.getD .skip) (args := [Value.slice p n c,
  Value.slice q k d]) (w := w) (R := R) pur1_ok Tryz.func39 hb e h

def VC_acldigits (x : Int) (w : World) (R : Ending → World → Prop) : Prop :=
 ∃ (I : List Value → World → Prop),
 ∃ (m : List Value → World → Nat),
 I [Value.int IntKind.i64 x, Value.string (ByteArray.mk #[])] w ∧
 ∀ (x : Int) (x_1 : ByteArray) (w' : World),
 I [Value.int IntKind.i64 x, Value.string x_1] w' →
 bsp (decide (x > 0))
 ((0 ≤ x.tmod 10 ∧ x.tmod 10 ≤ IntKind.i64.wrap (x.tmod 10 + 1) ∧ IntKind.i64.wrap (x.tmod 10 + 1) ≤ (↑10 : Int)) ∧
 (9223372036854775807 -
 (↑(((ByteArray.mk #[48, 49, 50, 51, 52, 53, 54, 55, 56, 57]).extract (x.tmod 10).toNat
 (IntKind.i64.wrap (x.tmod 10 + 1)).toNat).size +
 x_1.size) :
 Int)).NonNeg ∧
 I
 [Value.int IntKind.i64 (IntKind.i64.wrap (x.tdiv 10)),
 Value.string
 ((ByteArray.mk #[48, 49, 50, 51, 52, 53, 54, 55, 56, 57]).extract (x.tmod 10).toNat
 (IntKind.i64.wrap (x.tmod 10 + 1)).toNat ++
 x_1)]
 w' ∧
 m
 [Value.int IntKind.i64 (IntKind.i64.wrap (x.tdiv 10)),
 Value.string
 ((ByteArray.mk #[48, 49, 50, 51, 52, 53, 54, 55, 56, 57]).extract (x.tmod 10).toNat
 (IntKind.i64.wrap (x.tmod 10 + 1)).toNat ++
 x_1)]
 w' <
 m [Value.int IntKind.i64 x, Value.string x_1] w')
 (R (Ending.returned (Value.string x_1)) w')
theorem vc_acldigits (x : Int) (w : World) (R : Ending → World → Prop) (h : VC_acldigits x w R) : Calls Tryz.prog 25 ([Value.int
    IntKind.i64 x] : List Value).toArray w R := by
  have e : execR2 { P := Tryz.prog, loops := [(2, [(0, Ck.int IntKind.i64), (3, Ck.str)])], pur := pur1, tails := [], joins := [], boxes := [] } Tryz.f25.results.toList R (Tryz.f25.body.getD .skip) (initF [Value.int
    IntKind.i64
    x] (Tryz.f25.ntmps - ([Value.int IntKind.i64 x] : List Value).length)) w = VC_acldigits x w R := by kernel_rfl
  have hb : Tryz.f25.body = some (Tryz.f25.body.getD .skip) := by kernel_rfl
  exact calls_of_exec2' (P := Tryz.prog) (fn := Tryz.f25) (c := Tryz.f25.body.getD .skip) (args := [Value.int
    IntKind.i64 x]) (w := w) (R := R) pur1_ok Tryz.func25 hb e h

def VC_aclstate (b : Nat) (p : Option Addr) (n : Nat) (c : Nat) (w : World) (R : Ending → World → Prop) : Prop :=
 CallsS Tryz.prog 18 #[Value.pointer (some (Addr.mk b 0 none))] w fun (e : Ending) (w' : World) =>
 ∃ (p_1 : Option Addr),
 ∃ (n_1 : Nat),
 ∃ (c : Nat),
 e = Ending.returned (Value.slice p_1 n_1 c) ∧
 KeptL [] w w' ∧
 bsp ((↑n_1 : Int) != (↑n : Int)) (R (Ending.returned (Value.bool false)) w')
 (∃ (I : List Value → World → Prop),
 ∃ (m : List Value → World → Nat),
 I [Value.int IntKind.i64 0] w' ∧
 ∀ (x : Int) (w' : World),
 I [Value.int IntKind.i64 x] w' →
 bsp (decide (x < (↑n : Int)))
 (nn true p fun (b_1 o : Nat) =>
 (0 ≤ x ∧ x < (↑n : Int)) ∧
 ∃ (x_1 : ByteArray),
 w'.cell? (Addr.mk b_1 (o + x.toNat * 4) none) = some (Value.string x_1) ∧
 CallsS Tryz.prog 16 #[Value.pointer (some (Addr.mk b 0 none)), Value.string x_1] w'
 fun (e : Ending) (w'_1 : World) =>
 ∃ (x_2 : ByteArray),
 ∃ (x_3 : Int),
 ∃ (x_4 : Int),
 ∃ (x_5 : Int),
 ∃ (x_6 : Bool),
 ∃ (x_7 : Int),
 e =
 Ending.returned
 (Value.tuple
 #[Value.agg
 #[Value.string x_2, Value.int IntKind.i64 x_3, Value.int IntKind.i64 x_4,
 Value.int IntKind.i64 x_5, Value.bool x_6],
 Value.int IntKind.i64 x_7]) ∧
 KeptL [] w' w'_1 ∧
 ∀ (n_2 : Nat) (W : World),
 Loc w.heap.size
 [Blk.mk n_2 31
 [Value.string x_2, Value.int IntKind.i64 x_3, Value.int IntKind.i64 x_4,
 Value.int IntKind.i64 x_5, Value.bool x_6]
 (wrM 2)]
 w'_1 W →
 ∃ (S : World → Prop),
 S W ∧
 nn true p_1 fun (b o : Nat) =>
 (0 ≤ x ∧ x < (↑n_1 : Int)) ∧
 ∃ (x_8 : ByteArray),
 (∀ (w' : World),
 S w' → w'.cell? (Addr.mk b (o + x.toNat) none) = some (Value.string x_8)) ∧
 nn true p fun (b o : Nat) =>
 (0 ≤ x ∧ x < (↑n : Int)) ∧
 ∃ (x_9 : ByteArray),
 (∀ (w' : World),
 S w' → w'.cell? (Addr.mk b (o + x.toNat * 4) none) = some (Value.string x_9)) ∧
 ∃ (x_10 : ByteArray),
 ∃ (x_11 : Int),
 ∃ (x_12 : Int),
 ∃ (x_13 : Int),
 ∃ (x_14 : Bool),
 gimp (!(!x_8.toList == x_9.toList || x_7 != 0))
 (∀ (w' : World),
 S w' →
 AtL w' n_2 0
 [Value.string x_10, Value.int IntKind.i64 x_11,
 Value.int IntKind.i64 x_12, Value.int IntKind.i64 x_13,
 Value.bool x_14]) ∧
 nn (!(!x_8.toList == x_9.toList || x_7 != 0)) p fun (b o : Nat) =>
 gimp (!(!x_8.toList == x_9.toList || x_7 != 0)) (0 ≤ x ∧ x < (↑n : Int)) ∧
 ∃ (x_15 : ByteArray),
 gimp (!(!x_8.toList == x_9.toList || x_7 != 0))
 (∀ (w' : World),
 S w' →
 w'.cell? (Addr.mk b (o + x.toNat * 4) none) =
 some (Value.string x_15)) ∧
 nn (!(!x_8.toList == x_9.toList || x_7 != 0)) p fun (b o : Nat) =>
 gimp (!(!x_8.toList == x_9.toList || x_7 != 0))
 (0 ≤ x ∧ x < (↑n : Int)) ∧
 ∃ (x_16 : ByteArray),
 ∃ (x_17 : Int),
 ∃ (p_2 : Option Addr),
 ∃ (n_3 : Nat),
 ∃ (c : Nat),
 ∃ (x_18 : Bool),
 gimp (!(!x_8.toList == x_9.toList || x_7 != 0))
 (∀ (w' : World),
 S w' →
 AtL w' b (o + x.toNat * 4)
 [Value.string x_16, Value.int IntKind.i64 x_17,
 Value.slice p_2 n_3 c, Value.bool x_18]) ∧
 nn (!(!x_8.toList == x_9.toList || x_7 != 0)) p
 fun (b o : Nat) =>
 gimp (!(!x_8.toList == x_9.toList || x_7 != 0))
 (0 ≤ x ∧ x < (↑n : Int)) ∧
 ∃ (x_19 : Int),
 gimp (!(!x_8.toList == x_9.toList || x_7 != 0))
 (∀ (w' : World),
 S w' →
 w'.cell? (Addr.mk b (o + x.toNat * 4 + 1) none) =
 some (Value.int IntKind.i64 x_19)) ∧
 nn (!(!x_8.toList == x_9.toList || x_7 != 0)) p
 fun (b o : Nat) =>
 gimp (!(!x_8.toList == x_9.toList || x_7 != 0))
 (0 ≤ x ∧ x < (↑n : Int)) ∧
 ∃ (p_3 : Option Addr),
 ∃ (n_4 : Nat),
 ∃ (c_1 : Nat),
 gimp (!(!x_8.toList == x_9.toList || x_7 != 0))
 (∀ (w' : World),
 S w' →
 w'.cell? (Addr.mk b (o + x.toNat * 4 + 2) none) =
 some (Value.slice p_3 n_4 c_1)) ∧
 nn (!(!x_8.toList == x_9.toList || x_7 != 0)) p
 fun (b o : Nat) =>
 gimp (!(!x_8.toList == x_9.toList || x_7 != 0))
 (0 ≤ x ∧ x < (↑n : Int)) ∧
 ∃ (x_20 : Bool),
 gimp (!(!x_8.toList == x_9.toList || x_7 != 0))
 (∀ (w' : World),
 S w' →
 w'.cell?
 (Addr.mk b (o + x.toNat * 4 + 3) none) =
 some (Value.bool x_20)) ∧
 bsp (!(!x_8.toList == x_9.toList || x_7 != 0))
 (CallsS Tryz.prog 56
 #[Value.agg
 #[Value.string x_16,
 Value.int IntKind.i64 x_17,
 Value.slice p_2 n_3 c, Value.bool x_18]]
 W fun (e : Ending) (w'_2 : World) =>
 ∃ (x_21 : Int),
 e =
 Ending.returned
 (Value.int IntKind.i64 x_21) ∧
 S w'_2 ∧
 ∃ (r : Bool),
 EqP Tryz.prog 31
 (Value.agg
 #[Value.string x_10,
 Value.int IntKind.i64 x_11,
 Value.int IntKind.i64 x_12,
 Value.int IntKind.i64 x_13,
 Value.bool x_14])
 (Value.agg
 #[Value.string x_15,
 Value.int IntKind.i64 x_21,
 Value.int IntKind.i64 x_19,
 Value.int IntKind.i64 (↑n_4 : Int),
 Value.bool x_20])
 r ∧
 KeptL [n_2] W w'_2 ∧
 bsp (false || !r)
 (R (Ending.returned (Value.bool false))
 w'_2)
 (I
 [Value.int IntKind.i64
 (IntKind.i64.wrap (x + 1))]
 w'_2 ∧
 m
 [Value.int IntKind.i64
 (IntKind.i64.wrap (x + 1))]
 w'_2 <
 m [Value.int IntKind.i64 x] w'))
 (S W ∧
 KeptL [n_2] W W ∧
 R (Ending.returned (Value.bool false)) W))
 (R (Ending.returned (Value.bool true)) w'))
theorem vc_aclstate (b : Nat) (p : Option Addr) (n : Nat) (c : Nat) (w : World) (R : Ending → World → Prop) (h : VC_aclstate b p n c w R) : Calls Tryz.prog 21 ([Value.pointer
    (some { block := b, off := 0 }),
  Value.slice p n c] : List Value).toArray w R := by
  have e : execR2 { P := Tryz.prog, loops := [(5, [(6, Ck.int IntKind.i64)])], pur := pur1, tails := [(8, 25)], joins := [], boxes := [] } Tryz.f21.results.toList R (Tryz.f21.body.getD .skip) (initF [Value.pointer
    (some { block := b, off := 0 }),
  Value.slice p n
    c] (Tryz.f21.ntmps - ([Value.pointer (some { block := b, off := 0 }),
  Value.slice p n c] : List Value).length)) w = VC_aclstate b p n c w R := by kernel_rfl
  have hb : Tryz.f21.body = some (Tryz.f21.body.getD .skip) := by kernel_rfl
  exact calls_of_exec2' (P := Tryz.prog) (fn := Tryz.f21) (c := Tryz.f21.body.getD .skip) (args := [Value.pointer
    (some { block := b, off := 0 }),
  Value.slice p n c]) (w := w) (R := R) pur1_ok Tryz.func21 hb e h

def VC_aclplay (p : Option Addr) (n : Nat) (c : Nat) (w : World) (R : Ending → World → Prop) : Prop :=
 CallsS Tryz.prog 19 #[] w fun (e : Ending) (w' : World) =>
 ∃ (x : Option Addr),
 e = Ending.returned (Value.pointer x) ∧
 KeptL [] w w' ∧
 ∃ (I : List Value → World → Prop),
 ∃ (m : List Value → World → Nat),
 I [Value.int IntKind.i64 0, Value.slice none 0 0] w' ∧
 ∀ (x_1 : Int) (p_1 : Option Addr) (n_1 c : Nat) (w' : World),
 I [Value.int IntKind.i64 x_1, Value.slice p_1 n_1 c] w' →
 bsp (decide (x_1 < (↑n : Int)) && decide (x_1 < 40))
 (nn true p fun (b o : Nat) =>
 (0 ≤ x_1 ∧ x_1 < (↑n : Int)) ∧
 ∃ (x_2 : Int),
 ∃ (p : Option Addr),
 ∃ (n : Nat),
 ∃ (c_1 : Nat),
 ∃ (x_3 : Int),
 AtL w' b (o + x_1.toNat * 3)
 [Value.int IntKind.u8 x_2, Value.slice p n c_1, Value.int IntKind.i64 x_3] ∧
 CallsS Tryz.prog 20
 #[Value.pointer x, Value.slice p_1 n_1 c,
 Value.agg #[Value.int IntKind.u8 x_2, Value.slice p n c_1, Value.int IntKind.i64 x_3]]
 w' fun (e : Ending) (w'_1 : World) =>
 ∃ (p : Option Addr),
 ∃ (n : Nat),
 ∃ (c_2 : Nat),
 ∃ (x_4 : Bool),
 e = Ending.returned (Value.tuple #[Value.slice p n c_2, Value.bool x_4]) ∧
 KeptL [] w' w'_1 ∧
 bsp (!x_4)
 (R (Ending.returned (Value.tuple #[Value.pointer x, Value.slice p n c_2, Value.bool false]))
 w'_1)
 (I [Value.int IntKind.i64 (IntKind.i64.wrap (x_1 + 1)), Value.slice p n c_2] w'_1 ∧
 m [Value.int IntKind.i64 (IntKind.i64.wrap (x_1 + 1)), Value.slice p n c_2] w'_1 <
 m [Value.int IntKind.i64 x_1, Value.slice p_1 n_1 c] w'))
 (R (Ending.returned (Value.tuple #[Value.pointer x, Value.slice p_1 n_1 c, Value.bool true])) w')
theorem vc_aclplay (p : Option Addr) (n : Nat) (c : Nat) (w : World) (R : Ending → World → Prop) (h : VC_aclplay p n c w R) : Calls Tryz.prog 22 ([Value.slice
    p n c] : List Value).toArray w R := by
  have e : execR2 { P := Tryz.prog, loops := [(4, [(7, Ck.int IntKind.i64), (6, Ck.slice)])], pur := pur1, tails := [], joins := [], boxes := [] } Tryz.f22.results.toList R (Tryz.f22.body.getD .skip) (initF [Value.slice
    p n c] (Tryz.f22.ntmps - ([Value.slice p n c] : List Value).length)) w = VC_aclplay p n c w R := by kernel_rfl
  have hb : Tryz.f22.body = some (Tryz.f22.body.getD .skip) := by kernel_rfl
  exact calls_of_exec2' (P := Tryz.prog) (fn := Tryz.f22) (c := Tryz.f22.body.getD .skip) (args := [Value.slice p n
    c]) (w := w) (R := R) pur1_ok Tryz.func22 hb e h

end Go.Proofs.YtgmmoghagpmpfaaGreatDoor

/- The formulas of functions by the symbolic evaluator, and that each gives the call's contract. Written by a program (gen.py). No condition. -/
namespace Go.Proofs.YtgmmoghagpmpfaaGreatDoor
set_option maxRecDepth 100000
set_option linter.unusedVariables false

def VC_acldo (b : Nat) (p : Option Addr) (n : Nat) (c : Nat) (k : Int) (q : Option Addr) (m : Nat) (d : Nat) (a : Int) (w : World) (R : Ending → World → Prop) : Prop :=
 ∀ (n_1 : Nat) (W : World),
 Loc w.heap.size [Blk.mk n_1 50 [Value.int IntKind.u8 k, Value.slice q m d, Value.int IntKind.i64 a] 2] w W →
 CallsS Tryz.prog 28 #[Value.slice q m d] W fun (e : Ending) (w' : World) =>
 ∃ (p_1 : Option Addr),
 ∃ (n_2 : Nat),
 ∃ (c_1 : Nat),
 e = Ending.returned (Value.slice p_1 n_2 c_1) ∧
 KeptL [n_1] W w' ∧
 bsp (k.tmod 8 == 0)
 (CallsS Tryz.prog 32 #[Value.slice p_1 n_2 c_1] w' fun (e : Ending) (w'_1 : World) =>
 ∃ (x : ByteArray),
 e = Ending.returned (Value.string x) ∧
 KeptL [n_1] w' w'_1 ∧
 CallsS Tryz.prog 53 #[Value.slice p n c, Value.string x] w'_1 fun (e : Ending) (w' : World) =>
 ∃ (p : Option Addr),
 ∃ (n : Nat),
 ∃ (c : Nat),
 ∃ (x : Int),
 e = Ending.returned (Value.tuple #[Value.slice p n c, Value.int IntKind.i64 x]) ∧
 KeptL [n_1] w'_1 w' ∧
 CallsS Tryz.prog 32 #[Value.slice p_1 n_2 c_1] w' fun (e : Ending) (w'_2 : World) =>
 ∃ (x_1 : ByteArray),
 e = Ending.returned (Value.string x_1) ∧
 KeptL [n_1] w' w'_2 ∧
 CallsS Tryz.prog 31 #[Value.pointer (some (Addr.mk b 0 none)), Value.string x_1] w'_2
 fun (e : Ending) (w' : World) =>
 ∃ (x_2 : Int),
 e = Ending.returned (Value.int IntKind.i64 x_2) ∧
 KeptL [n_1] w'_2 w' ∧
 R (Ending.returned (Value.tuple #[Value.slice p n c, Value.bool (x_2 == x)])) w')
 (bsp (k.tmod 8 == 1)
 (CallsS Tryz.prog 32 #[Value.slice p_1 n_2 c_1] w' fun (e : Ending) (w'_1 : World) =>
 ∃ (x : ByteArray),
 e = Ending.returned (Value.string x) ∧
 KeptL [n_1] w' w'_1 ∧
 CallsS Tryz.prog 54 #[Value.slice p n c, Value.string x] w'_1 fun (e : Ending) (w' : World) =>
 ∃ (p : Option Addr),
 ∃ (n : Nat),
 ∃ (c : Nat),
 ∃ (x : Int),
 e = Ending.returned (Value.tuple #[Value.slice p n c, Value.int IntKind.i64 x]) ∧
 KeptL [n_1] w'_1 w' ∧
 CallsS Tryz.prog 32 #[Value.slice p_1 n_2 c_1] w' fun (e : Ending) (w'_2 : World) =>
 ∃ (x_1 : ByteArray),
 e = Ending.returned (Value.string x_1) ∧
 KeptL [n_1] w' w'_2 ∧
 CallsS Tryz.prog 26 #[Value.pointer (some (Addr.mk b 0 none)), Value.string x_1] w'_2
 fun (e : Ending) (w' : World) =>
 ∃ (x_2 : Int),
 e = Ending.returned (Value.int IntKind.i64 x_2) ∧
 KeptL [n_1] w'_2 w' ∧
 R (Ending.returned (Value.tuple #[Value.slice p n c, Value.bool (x_2 == x)])) w')
 (bsp (k.tmod 8 == 6)
 (bsp (k.tmod 8 == 6)
 (∀ (W : World),
 Loc w.heap.size [Blk.mk n_1 50 [Value.int IntKind.u8 k, Value.slice q m d, Value.int IntKind.i64 a] 0] w'
 W →
 ∃ (S : World → Prop),
 S W ∧
 ∃ (x : Int),
 (∀ (w' : World), S w' → w'.cell? (Addr.mk n_1 (0 + 2) none) = some (Value.int IntKind.i64 x)) ∧
 CallsS Tryz.prog 32 #[Value.slice p_1 n_2 c_1] W fun (e : Ending) (w' : World) =>
 ∃ (x_1 : ByteArray),
 e = Ending.returned (Value.string x_1) ∧
 S w' ∧
 CallsS Tryz.prog 55 #[Value.slice p n c, Value.string x_1, Value.int IntKind.i64 x] w'
 fun (e : Ending) (w' : World) =>
 ∃ (p : Option Addr),
 ∃ (n : Nat),
 ∃ (c : Nat),
 ∃ (x : Int),
 e = Ending.returned (Value.tuple #[Value.slice p n c, Value.int IntKind.i64 x]) ∧
 KeptL [n_1] W w' ∧
 ∀ (W : World),
 Loc w.heap.size
 [Blk.mk n_1 50 [Value.int IntKind.u8 k, Value.slice q m d, Value.int IntKind.i64 a] 0]
 w' W →
 ∃ (S : World → Prop),
 S W ∧
 ∃ (x_2 : Int),
 (∀ (w' : World),
 S w' → w'.cell? (Addr.mk n_1 (0 + 2) none) = some (Value.int IntKind.i64 x_2)) ∧
 CallsS Tryz.prog 32 #[Value.slice p_1 n_2 c_1] W fun (e : Ending) (w' : World) =>
 ∃ (x_3 : ByteArray),
 e = Ending.returned (Value.string x_3) ∧
 S w' ∧
 CallsS Tryz.prog 33
 #[Value.pointer (some (Addr.mk b 0 none)),
 Value.agg #[Value.string x_3, Value.int IntKind.i64 x_2]]
 w' fun (e : Ending) (w' : World) =>
 ∃ (x_4 : Int),
 e = Ending.returned (Value.int IntKind.i64 x_4) ∧
 KeptL [n_1] W w' ∧
 R (Ending.returned (Value.tuple #[Value.slice p n c, Value.bool (x_4 == x)]))
 w')
 (CallsS Tryz.prog 29 #[Value.slice p n c, Value.slice p_1 n_2 c_1] w' fun (e : Ending) (w'_1 : World) =>
 ∃ (p : Option Addr),
 ∃ (n : Nat),
 ∃ (c : Nat),
 ∃ (p_2 : Option Addr),
 ∃ (n_3 : Nat),
 ∃ (c_2 : Nat),
 ∃ (x : Int),
 e =
 Ending.returned
 (Value.tuple #[Value.slice p n c, Value.slice p_2 n_3 c_2, Value.int IntKind.i64 x]) ∧
 KeptL [n_1] w' w'_1 ∧
 CallsS Tryz.prog 27 #[Value.pointer (some (Addr.mk b 0 none)), Value.slice p_1 n_2 c_1] w'_1
 fun (e : Ending) (w' : World) =>
 ∃ (p_3 : Option Addr),
 ∃ (n_4 : Nat),
 ∃ (c_3 : Nat),
 ∃ (x_1 : Int),
 e = Ending.returned (Value.tuple #[Value.slice p_3 n_4 c_3, Value.int IntKind.i64 x_1]) ∧
 KeptL [n_1] w'_1 w' ∧
 bsp (x_1 != x || (↑n_4 : Int) != (↑n_3 : Int))
 (R (Ending.returned (Value.tuple #[Value.slice p n c, Value.bool false])) w')
 (∃ (I : List Value → World → Prop),
 ∃ (m_1 : List Value → World → Nat),
 I [Value.int IntKind.i64 0] w' ∧
 ∀ (x : Int) (w' : World),
 I [Value.int IntKind.i64 x] w' →
 Loc w.heap.size
 [Blk.mk n_1 50 [Value.int IntKind.u8 k, Value.slice q m d, Value.int IntKind.i64 a]
 0]
 w' w' →
 bsp (decide (x < (↑n_4 : Int)))
 (nn true p_3 fun (b o : Nat) =>
 (0 ≤ x ∧ x < (↑n_4 : Int)) ∧
 ∃ (x_2 : ByteArray),
 ∃ (x_3 : Int),
 (∀ (W : World),
 Loc w.heap.size
 [Blk.mk n_1 50
 [Value.int IntKind.u8 k, Value.slice q m d, Value.int IntKind.i64 a] 0]
 w' W →
 AtL W b (o + x.toNat * 2) [Value.string x_2, Value.int IntKind.i64 x_3]) ∧
 nn true p_1 fun (b o : Nat) =>
 (0 ≤ x ∧ x < (↑n_2 : Int)) ∧
 ∃ (x_4 : ByteArray),
 (∀ (W : World),
 Loc w.heap.size
 [Blk.mk n_1 50
 [Value.int IntKind.u8 k, Value.slice q m d, Value.int IntKind.i64 a]
 0]
 w' W →
 W.cell? (Addr.mk b (o + x.toNat) none) = some (Value.string x_4)) ∧
 nn true p_2 fun (b o : Nat) =>
 (0 ≤ x ∧ x < (↑n_3 : Int)) ∧
 ∃ (x_5 : Int),
 (∀ (W : World),
 Loc w.heap.size
 [Blk.mk n_1 50
 [Value.int IntKind.u8 k, Value.slice q m d,
 Value.int IntKind.i64 a]
 0]
 w' W →
 W.cell? (Addr.mk b (o + x.toNat) none) =
 some (Value.int IntKind.i64 x_5)) ∧
 ∃ (r : Bool),
 EqP Tryz.prog 64
 (Value.agg #[Value.string x_2, Value.int IntKind.i64 x_3])
 (Value.agg #[Value.string x_4, Value.int IntKind.i64 x_5]) r ∧
 bsp (!r)
 (∀ (W : World),
 Loc w.heap.size
 [Blk.mk n_1 50
 [Value.int IntKind.u8 k, Value.slice q m d,
 Value.int IntKind.i64 a]
 0]
 w' W →
 R
 (Ending.returned
 (Value.tuple #[Value.slice p n c, Value.bool false]))
 W)
 (∀ (W : World),
 Loc w.heap.size
 [Blk.mk n_1 50
 [Value.int IntKind.u8 k, Value.slice q m d,
 Value.int IntKind.i64 a]
 0]
 w' W →
 I [Value.int IntKind.i64 (IntKind.i64.wrap (x + 1))] W ∧
 m_1 [Value.int IntKind.i64 (IntKind.i64.wrap (x + 1))] W <
 m_1 [Value.int IntKind.i64 x] w'))
 (R (Ending.returned (Value.tuple #[Value.slice p n c, Value.bool true])) w'))))
 (bsp (k.tmod 8 == 7)
 (∀ (W : World),
 Loc w.heap.size [Blk.mk n_1 50 [Value.int IntKind.u8 k, Value.slice q m d, Value.int IntKind.i64 a] 0] w'
 W →
 ∃ (S : World → Prop),
 S W ∧
 ∃ (x : Int),
 (∀ (w' : World), S w' → w'.cell? (Addr.mk n_1 (0 + 2) none) = some (Value.int IntKind.i64 x)) ∧
 CallsS Tryz.prog 32 #[Value.slice p_1 n_2 c_1] W fun (e : Ending) (w' : World) =>
 ∃ (x_1 : ByteArray),
 e = Ending.returned (Value.string x_1) ∧
 S w' ∧
 CallsS Tryz.prog 55 #[Value.slice p n c, Value.string x_1, Value.int IntKind.i64 x] w'
 fun (e : Ending) (w' : World) =>
 ∃ (p : Option Addr),
 ∃ (n : Nat),
 ∃ (c : Nat),
 ∃ (x : Int),
 e = Ending.returned (Value.tuple #[Value.slice p n c, Value.int IntKind.i64 x]) ∧
 KeptL [n_1] W w' ∧
 ∀ (W : World),
 Loc w.heap.size
 [Blk.mk n_1 50 [Value.int IntKind.u8 k, Value.slice q m d, Value.int IntKind.i64 a] 0]
 w' W →
 ∃ (S : World → Prop),
 S W ∧
 ∃ (x_2 : Int),
 (∀ (w' : World),
 S w' → w'.cell? (Addr.mk n_1 (0 + 2) none) = some (Value.int IntKind.i64 x_2)) ∧
 CallsS Tryz.prog 32 #[Value.slice p_1 n_2 c_1] W fun (e : Ending) (w' : World) =>
 ∃ (x_3 : ByteArray),
 e = Ending.returned (Value.string x_3) ∧
 S w' ∧
 CallsS Tryz.prog 33
 #[Value.pointer (some (Addr.mk b 0 none)),
 Value.agg #[Value.string x_3, Value.int IntKind.i64 x_2]]
 w' fun (e : Ending) (w' : World) =>
 ∃ (x_4 : Int),
 e = Ending.returned (Value.int IntKind.i64 x_4) ∧
 KeptL [n_1] W w' ∧
 R (Ending.returned (Value.tuple #[Value.slice p n c, Value.bool (x_4 == x)]))
 w')
 (CallsS Tryz.prog 29 #[Value.slice p n c, Value.slice p_1 n_2 c_1] w' fun (e : Ending) (w'_1 : World) =>
 ∃ (p : Option Addr),
 ∃ (n : Nat),
 ∃ (c : Nat),
 ∃ (p_2 : Option Addr),
 ∃ (n_3 : Nat),
 ∃ (c_2 : Nat),
 ∃ (x : Int),
 e =
 Ending.returned
 (Value.tuple #[Value.slice p n c, Value.slice p_2 n_3 c_2, Value.int IntKind.i64 x]) ∧
 KeptL [n_1] w' w'_1 ∧
 CallsS Tryz.prog 27 #[Value.pointer (some (Addr.mk b 0 none)), Value.slice p_1 n_2 c_1] w'_1
 fun (e : Ending) (w' : World) =>
 ∃ (p_3 : Option Addr),
 ∃ (n_4 : Nat),
 ∃ (c_3 : Nat),
 ∃ (x_1 : Int),
 e = Ending.returned (Value.tuple #[Value.slice p_3 n_4 c_3, Value.int IntKind.i64 x_1]) ∧
 KeptL [n_1] w'_1 w' ∧
 bsp (x_1 != x || (↑n_4 : Int) != (↑n_3 : Int))
 (R (Ending.returned (Value.tuple #[Value.slice p n c, Value.bool false])) w')
 (∃ (I : List Value → World → Prop),
 ∃ (m_1 : List Value → World → Nat),
 I [Value.int IntKind.i64 0] w' ∧
 ∀ (x : Int) (w' : World),
 I [Value.int IntKind.i64 x] w' →
 Loc w.heap.size
 [Blk.mk n_1 50 [Value.int IntKind.u8 k, Value.slice q m d, Value.int IntKind.i64 a]
 0]
 w' w' →
 bsp (decide (x < (↑n_4 : Int)))
 (nn true p_3 fun (b o : Nat) =>
 (0 ≤ x ∧ x < (↑n_4 : Int)) ∧
 ∃ (x_2 : ByteArray),
 ∃ (x_3 : Int),
 (∀ (W : World),
 Loc w.heap.size
 [Blk.mk n_1 50
 [Value.int IntKind.u8 k, Value.slice q m d, Value.int IntKind.i64 a] 0]
 w' W →
 AtL W b (o + x.toNat * 2) [Value.string x_2, Value.int IntKind.i64 x_3]) ∧
 nn true p_1 fun (b o : Nat) =>
 (0 ≤ x ∧ x < (↑n_2 : Int)) ∧
 ∃ (x_4 : ByteArray),
 (∀ (W : World),
 Loc w.heap.size
 [Blk.mk n_1 50
 [Value.int IntKind.u8 k, Value.slice q m d, Value.int IntKind.i64 a]
 0]
 w' W →
 W.cell? (Addr.mk b (o + x.toNat) none) = some (Value.string x_4)) ∧
 nn true p_2 fun (b o : Nat) =>
 (0 ≤ x ∧ x < (↑n_3 : Int)) ∧
 ∃ (x_5 : Int),
 (∀ (W : World),
 Loc w.heap.size
 [Blk.mk n_1 50
 [Value.int IntKind.u8 k, Value.slice q m d,
 Value.int IntKind.i64 a]
 0]
 w' W →
 W.cell? (Addr.mk b (o + x.toNat) none) =
 some (Value.int IntKind.i64 x_5)) ∧
 ∃ (r : Bool),
 EqP Tryz.prog 64
 (Value.agg #[Value.string x_2, Value.int IntKind.i64 x_3])
 (Value.agg #[Value.string x_4, Value.int IntKind.i64 x_5]) r ∧
 bsp (!r)
 (∀ (W : World),
 Loc w.heap.size
 [Blk.mk n_1 50
 [Value.int IntKind.u8 k, Value.slice q m d,
 Value.int IntKind.i64 a]
 0]
 w' W →
 R
 (Ending.returned
 (Value.tuple #[Value.slice p n c, Value.bool false]))
 W)
 (∀ (W : World),
 Loc w.heap.size
 [Blk.mk n_1 50
 [Value.int IntKind.u8 k, Value.slice q m d,
 Value.int IntKind.i64 a]
 0]
 w' W →
 I [Value.int IntKind.i64 (IntKind.i64.wrap (x + 1))] W ∧
 m_1 [Value.int IntKind.i64 (IntKind.i64.wrap (x + 1))] W <
 m_1 [Value.int IntKind.i64 x] w'))
 (R (Ending.returned (Value.tuple #[Value.slice p n c, Value.bool true])) w'))))))
theorem vc_acldo (b : Nat) (p : Option Addr) (n : Nat) (c : Nat) (k : Int) (q : Option Addr) (m : Nat) (d : Nat) (a : Int) (w : World) (R : Ending → World → Prop) (h : VC_acldo b p n c k q m d a w R) : Calls Tryz.prog 20 ([Value.pointer
    (some { block := b, off := 0 }),
  Value.slice p n c,
  Value.agg #[Value.int IntKind.u8 k, Value.slice q m d, Value.int IntKind.i64 a]] : List Value).toArray w R := by
  have e : execR2 { P := Tryz.prog, loops := [(18, [(20, Ck.int IntKind.i64)])], pur := pur1, tails := [(11, 2), (12, 3)], joins := [], boxes := [] } Tryz.f20.results.toList R (Tryz.f20.body.getD .skip) (initF [Value.pointer
    (some { block := b, off := 0 }),
  Value.slice p n c,
  Value.agg
    #[Value.int IntKind.u8 k, Value.slice q m d,
      Value.int IntKind.i64
        a]] (Tryz.f20.ntmps - ([Value.pointer (some { block := b, off := 0 }), Value.slice p n c,
  Value.agg
    #[Value.int IntKind.u8 k, Value.slice q m d,
      Value.int IntKind.i64 a]] : List Value).length)) w = VC_acldo b p n c k q m d a w R := by kernel_rfl
  have hb : Tryz.f20.body = some (Tryz.f20.body.getD .skip) := by kernel_rfl
  exact calls_of_exec2' (P := Tryz.prog) (fn := Tryz.f20) (c := Tryz.f20.body.getD .skip) (args := [Value.pointer
    (some { block := b, off := 0 }),
  Value.slice p n c,
  Value.agg
    #[Value.int IntKind.u8 k, Value.slice q m d, Value.int IntKind.i64 a]]) (w := w) (R := R) pur1_ok Tryz.func20 hb e h

end Go.Proofs.YtgmmoghagpmpfaaGreatDoor

/- Chapter 27: the law's names, first, do: an operation on the module's table and on the reference's. The library's variable MaxLen holds a number. -/
namespace Go.Proofs.YtgmmoghagpmpfaaGreatDoor
open Go.RowKit Go.Sort Go.Maps

/-- At most 4 names of at most 100 bytes. -/
def nmL (l : List ByteArray) : List ByteArray := (l.take 4).map fun s => s.extract 0 (if (100 : Int) < (s.size : Int) then 100 else (s.size : Int)).toNat
theorem nmL_len (l : List ByteArray) : (nmL l).length ≤ 4 := by unfold nmL; rw [List.length_map, List.length_take]; omega
theorem nmL_size {l : List ByteArray} {s : ByteArray} (h : s ∈ nmL l) : s.size ≤ 100 := by
  obtain ⟨t, _, rfl⟩ := List.mem_map.1 h
  rw [ByteArray.size_extract]
  split <;> omega
theorem fst_size {l : List ByteArray} : (fstL (nmL l)).size ≤ 100 := by
  unfold fstL
  cases h : nmL l with
  | nil => decide
  | cons x r => exact nmL_size (l := l) (by rw [h]; exact List.mem_cons_self)
theorem fst_mem {l : List ByteArray} {s : ByteArray} (h : l[0]? = some s) : fstL l = s := by
  cases l with
  | nil => cases h
  | cons x r => simpa [fstL] using h
section
variable {w : World} {B b mb : Nat} {m : TM} {A : TA}
set_option maxHeartbeats 1000000 in
theorem aclnames_any (l : List ByteArray) (p : Option Addr) (c : Nat) (w : World) (hS : StrP w p l) (hl : l.length ≤ 4611686018427387904) :
    Calls Tryz.prog 28 #[.slice p l.length c] w fun e w' => (∃ p' c', e = .returned (.slice p' (nmL l).length c') ∧ w'.ownsRow w.heap.size 9 1 (.slice p' (nmL l).length c') (nmL l).length ((nmL l).map .string)) ∧ K0 w w' := by
  refine vc_aclnames p l.length c w _ ⟨fun vs w' => ∃ (i : Nat) (q : Option Addr) (d : Nat), vs = [.int .i64 (i : Int), .slice q (nmL (l.take i)).length d] ∧ i ≤ l.length ∧ i ≤ 4 ∧ w'.ownsRow w.heap.size 9 1 (.slice q (nmL (l.take i)).length d) (nmL (l.take i)).length ((nmL (l.take i)).map .string) ∧ K0 w w',
    fun vs _ => (match vs with | .int _ a :: _ => l.length - a.toNat | _ => 0), ⟨0, none, 0, rfl, by omega, by omega, World.ownsRow_nil _ _ _ _, .refl _ _⟩, ?_⟩
  rintro xi p1 n1 c1 w1 ⟨i, q, d, hv, hi, hi4, ho, k1⟩
  simp only [List.cons.injEq, Value.int.injEq, Value.slice.injEq, true_and, and_true] at hv
  obtain ⟨rfl, rfl, rfl, rfl⟩ := hv
  have hnl := nmL_len (l.take i)
  refine bsp_intro (fun hlt W hW => ?_) (fun hge => ?_)
  · have hlt : i < l.length ∧ i < 4 := by simp at hlt; omega
    have kW : K0 w1 W := hW.kk rfl
    obtain ⟨s, sb, so, hs, hp, hcs⟩ := ((hS.k0 k1).k0 kW).get hlt.1
    rw [Int.toNat_natCast]
    have hsn : nmL (l.take (i + 1)) = nmL (l.take i) ++ [s.extract 0 (if (100 : Int) < (s.size : Int) then 100 else (s.size : Int)).toNat] := by
      unfold nmL
      rw [List.take_take, List.take_take, Nat.min_eq_right (by omega), Nat.min_eq_right (by omega), take_snoc hs, List.map_append]
      rfl
    refine ⟨fun w' => K0 W w', .refl _ _, nn_is hp ⟨⟨by omega, by omega⟩, s, fun w' k => k.cell' hcs (fun h => h), nn_is hp ⟨⟨by omega, by omega⟩, s, fun w' k => k.cell' hcs (fun h => h), ⟨by split <;> omega, by split <;> omega⟩, fun n2 w2 h2 => ?_⟩⟩⟩
    have k2 : K0 W w2 := h2.kp _
    have ho2 := owns_kp ho (kW.trans k2) (fun _ _ h => h)
    refine ⟨_, _, _, ho2, rfl, src_block h2.block (fun u hu => by simp at hu; rw [hu]; rfl), by omega, by omega, ((k1.trans kW).trans k2).size, fun p' c' w3 ho3 hg3 _ => ?_⟩
    have kg := kp_grown hg3
    have k3 : K0 w w3 := ((k1.trans kW).trans k2).fresh kg (fun j hj e => by have := own_ge ho2 e; omega)
    rw [inc64 (by omega)]
    refine ⟨⟨Nat.le_trans k2.size kg.size, fun _ hm => by cases hm⟩, ⟨i + 1, p', c', by rw [hsn]; simp, by omega, by omega, ?_, k3⟩, by simp only [Int.toNat_natCast]; omega⟩
    rw [hsn, List.length_append, List.map_append]
    exact ho3
  · have hge : l.length ≤ i ∨ 4 ≤ i := by simp at hge; omega
    have e : nmL (l.take i) = nmL l := by
      unfold nmL
      rw [List.take_take]
      rcases hge with h | h
      · have : i = l.length := by omega
        subst this
        rw [Nat.min_eq_right (by omega), List.take_length, List.take_of_length_le (by omega)]
      · rw [Nat.min_eq_left (by omega)]
    rw [e] at ho ⊢
    exact ⟨⟨p1, c1, rfl, ho⟩, k1⟩
theorem aclfirst_any (l : List ByteArray) (p : Option Addr) (c : Nat) (w : World) (hS : StrP w p l) :
    Calls Tryz.prog 32 #[.slice p l.length c] w fun e w' => e = .returned (.string (fstL l)) ∧ w' = w := by
  refine vc_aclfirst p l.length c w _ (bsp_intro (fun h0 => ?_) (fun h0 => ?_))
  · have h0 : l = [] := List.eq_nil_of_length_eq_zero (by simp at h0; simp [h0])
    subst h0
    exact ⟨rfl, rfl⟩
  · have h0 : 0 < l.length := by
      rcases Nat.eq_zero_or_pos l.length with e | e
      · rw [e] at h0; simp at h0
      · exact e
    obtain ⟨s, sb, so, hs, hp, hcs⟩ := hS.get h0
    exact nn_is hp ⟨⟨by omega, by omega⟩, s, hcs, by rw [fst_mem hs], rfl⟩
theorem asR_zip (A : TA) (l : List ByteArray) : (l.zip (asR A l).2.1).length = (asR A l).2.1.length := by
  unfold asR
  split
  · simp
  split
  · simp
  rename_i hnd
  split
  · simp
  rename_i hE
  have := asN_len (A := A) (r := l) (Classical.byContradiction hnd) (Classical.byContradiction hE)
  rw [List.length_zip]
  show min l.length (asN A l).length = (asN A l).length
  omega
set_option maxRecDepth 100000 in
set_option maxHeartbeats 8000000 in
theorem acldo_any {p : Option Addr} {R : List Rx} {A2 : TA} (h : Tq w B b mb m A) (hT : RowT w p R A2) (hwf : WF A2) (hn : A2.length ≤ 4096) (hsm : Sm 1000000 A2) (c : Nat) (hc : A2.length ≤ c) (x : OpY) (hx : OpR27 w x) (hG : GW w) :
    Calls Tryz.prog 20 #[.pointer (some ⟨b, 0, none⟩), .slice p A2.length c, .agg #[.int .u8 x.k, .slice x.p x.gs.length x.c, .int .i64 x.a]] w fun e w' =>
      (∃ p' c' ok, e = .returned (.tuple #[.slice p' (opX A2 x.k (nmL x.gs) x.a).length c', .bool ok]) ∧ RowU w' p' c' (opX A2 x.k (nmL x.gs) x.a) ∧ (A = A2 → ok = true)) ∧ ∃ m', Ts w w' B b mb m (opX A x.k (nmL x.gs) x.a) m' := by
  refine vc_acldo b p A2.length c x.k x.p x.gs.length x.c x.a w _ (fun n1 W hW => ?_)
  have kW : K0 w W := hW.kk rfl
  rw [show x.k.tmod 8 = x.k % 8 from Int.tmod_eq_emod_of_nonneg hx.k.1]
  have hcn : W.heap[n1]? = some (.cells #[.int .u8 x.k, .slice x.p x.gs.length x.c, .int .i64 x.a] 50 (0, 0)) := hW.cells 0 rfl
  have hng : w.heap.size ≤ n1 := hW.fresh 0 rfl rfl
  have hN : ∀ {wa wb : World}, Kp (Tb mb m) wa wb → KeptL [n1] wa wb := fun k => .of_kp k (fun n hn e => by
    simp only [List.mem_cons, List.not_mem_nil, or_false] at hn
    have := (h.z.tb e).2.1
    omega)
  refine ⟨(aclnames_any x.gs x.p x.c W (hx.str.k0 kW) hx.hl).mono fun e w1 ⟨⟨pg, cg, he, hog⟩, k1⟩ => ⟨_, _, _, he, .of_k0 k1, ?_⟩⟩
  have k01 : K0 w w1 := kW.trans k1
  have hS : StrP w1 pg (nmL x.gs) := strP_own hog (Nat.le_refl _)
  have hTy : TyN 9 w1 pg := TyN.own hog
  have hle := own_le hog
  have hsz : ∀ y ∈ R, y.s.size ≤ 1000000 := fun y hy => by
    obtain ⟨j, hj⟩ := List.getElem?_of_mem hy
    have : y.s.size ≤ 80 := name_size (hwf.nm _ (List.mem_of_getElem? (hT.at hj)))
    omega
  have hgl := nmL_len x.gs
  have hgz : ∀ s ∈ nmL x.gs, s.size ≤ 1073741824 := fun s hs => by have := nmL_size hs; omega
  have hfz := fst_size (l := x.gs)
  generalize hGe : nmL x.gs = G at *
  have hfin : ∀ {wx : World}, K0 w wx → StrP w1 pg G → K0 w1 wx → Calls Tryz.prog 32 #[.slice pg G.length cg] wx fun e w' => e = .returned (.string (fstL G)) ∧ w' = wx := fun {wx} _ hS k => aclfirst_any G pg cg wx (hS.k0 k)
  have p67 : x.k % 8 = 6 ∨ x.k % 8 = 7 → opX A2 x.k G x.a = (rmA A2 (fstL G) x.a).1 ∧ opX A x.k G x.a = (rmA A (fstL G) x.a).1 := fun e => by
    unfold opX
    rw [if_neg (by omega), if_neg (by omega), if_pos e, if_neg (by omega), if_neg (by omega), if_pos e]
    exact ⟨rfl, rfl⟩
  refine bsp_intro (fun hb => ?_) (fun hb => bsp_intro (fun hb1 => ?_) (fun hb1 => bsp_intro (fun hb6 => bsp_intro (fun _ W2 hW2 => ?_) (fun h => by rw [hb6] at h; cases h)) (fun hb6 => bsp_intro (fun hb7 W2 hW2 => ?_) (fun hb7 => ?_))))
  · have hb : x.k % 8 = 0 := by simpa using hb
    have e1 : opX A2 x.k G x.a = (opA A2 (fstL G)).1 := by unfold opX; rw [if_pos hb]
    have e2 : opX A x.k G x.a = (opA A (fstL G)).1 := by unfold opX; rw [if_pos hb]
    rw [e1, e2]
    refine ⟨(aclfirst_any G pg cg w1 hS).mono fun e w2 ⟨he, hw⟩ => ⟨_, he, by rw [hw]; exact .refl _ _, ?_⟩⟩
    subst hw
    refine ⟨(acxopen_any (hT.k0 k01) hwf hn c hc (fstL G) (by omega) hsz).mono fun e w3 ⟨⟨p3, c3, he, hU⟩, k3⟩ => ⟨_, _, _, _, he, .of_k0 k3, ?_⟩⟩
    refine ⟨(aclfirst_any G pg cg w3 (hS.k0 k3)).mono fun e w4 ⟨he, hw⟩ => ⟨_, he, by rw [hw]; exact .refl _ _, ?_⟩⟩
    subst hw
    have k03 := k01.trans k3
    refine ⟨(acopen_any (h.k0 k03) (fstL G) (by omega) (gk0 hG k03)).mono fun e w5 ⟨he, m', hTs⟩ => ⟨_, he, hN hTs.k, ⟨p3, c3, _, rfl, hU.tb (h.k0 k03).z hTs.k, fun e => by rw [e]; simp⟩, m', (h.same k03).trans hTs⟩⟩
  · have hb : ¬ x.k % 8 = 0 := by simpa using hb
    have hb1 : x.k % 8 = 1 := by simpa using hb1
    have e1 : opX A2 x.k G x.a = (clA A2 (fstL G)).1 := by unfold opX; rw [if_neg hb, if_pos hb1]
    have e2 : opX A x.k G x.a = (clA A (fstL G)).1 := by unfold opX; rw [if_neg hb, if_pos hb1]
    rw [e1, e2]
    refine ⟨(aclfirst_any G pg cg w1 hS).mono fun e w2 ⟨he, hw⟩ => ⟨_, he, by rw [hw]; exact .refl _ _, ?_⟩⟩
    subst hw
    refine ⟨(acxclose_any (hT.k0 k01) hwf hn c hc (fstL G)).mono fun e w3 ⟨⟨p3, c3, he, hU⟩, k3⟩ => ⟨_, _, _, _, he, .of_k0 k3, ?_⟩⟩
    refine ⟨(aclfirst_any G pg cg w3 (hS.k0 k3)).mono fun e w4 ⟨he, hw⟩ => ⟨_, he, by rw [hw]; exact .refl _ _, ?_⟩⟩
    subst hw
    have k03 := k01.trans k3
    refine ⟨(acclose_any (h.k0 k03) (fstL G) (by omega)).mono fun e w5 ⟨he, m', hTs⟩ => ⟨_, he, hN hTs.k, ⟨p3, c3, _, rfl, hU.tb (h.k0 k03).z hTs.k, fun e => by rw [e]; simp⟩, m', (h.same k03).trans hTs⟩⟩
  · have h6 : x.k % 8 = 6 ∨ x.k % 8 = 7 := .inl (by simpa using hb6)
    rw [(p67 h6).1, (p67 h6).2]
    have k2 : K0 w1 W2 := hW2.kk rfl
    have hc2 : W2.heap[n1]? = some (.cells #[.int .u8 x.k, .slice x.p x.gs.length x.c, .int .i64 x.a] 50 (0, 0)) := hW2.cells 0 rfl
    refine ⟨fun w' => K0 W2 w', .refl _ _, x.a, fun w' k => cell_at (k.blk hc2 (fun h => h)) rfl, ⟨(aclfirst_any G pg cg W2 (hS.k0 k2)).mono fun e w3 ⟨he, hw⟩ => ⟨_, he, by rw [hw]; exact .refl _ _, ?_⟩⟩⟩
    subst hw
    refine ⟨(acxremove_any (hT.k0 (k01.trans k2)) hwf hn hsm c hc (fstL G) x.a).mono fun e w4 ⟨⟨p3, c3, he, hU⟩, k4⟩ => ⟨_, _, _, _, he, .of_k0 k4, fun W5 hW5 => ?_⟩⟩
    have k5 : K0 w4 W5 := hW5.kk rfl
    have hc5 : W5.heap[n1]? = some (.cells #[.int .u8 x.k, .slice x.p x.gs.length x.c, .int .i64 x.a] 50 (0, 0)) := hW5.cells 0 rfl
    refine ⟨fun w' => K0 W5 w', .refl _ _, x.a, fun w' k => cell_at (k.blk hc5 (fun h => h)) rfl, ⟨(aclfirst_any G pg cg W5 (hS.k0 ((k2.trans k4).trans k5))).mono fun e w6 ⟨he, hw⟩ => ⟨_, he, by rw [hw]; exact .refl _ _, ?_⟩⟩⟩
    subst hw
    have k06 := ((k01.trans k2).trans k4).trans k5
    exact ⟨(acremove_any (h.k0 k06) (fstL G) (by omega) x.a hx.a).mono fun e w7 ⟨he, m', hTs⟩ => ⟨_, he, hN hTs.k, ⟨p3, c3, _, rfl, (hU.k0 k5).tb (h.k0 k06).z hTs.k, fun e => by rw [e]; simp⟩, m', (h.same k06).trans hTs⟩⟩
  · have h6 : x.k % 8 = 6 ∨ x.k % 8 = 7 := .inr (by simpa using hb7)
    rw [(p67 h6).1, (p67 h6).2]
    have k2 : K0 w1 W2 := hW2.kk rfl
    have hc2 : W2.heap[n1]? = some (.cells #[.int .u8 x.k, .slice x.p x.gs.length x.c, .int .i64 x.a] 50 (0, 0)) := hW2.cells 0 rfl
    refine ⟨fun w' => K0 W2 w', .refl _ _, x.a, fun w' k => cell_at (k.blk hc2 (fun h => h)) rfl, ⟨(aclfirst_any G pg cg W2 (hS.k0 k2)).mono fun e w3 ⟨he, hw⟩ => ⟨_, he, by rw [hw]; exact .refl _ _, ?_⟩⟩⟩
    subst hw
    refine ⟨(acxremove_any (hT.k0 (k01.trans k2)) hwf hn hsm c hc (fstL G) x.a).mono fun e w4 ⟨⟨p3, c3, he, hU⟩, k4⟩ => ⟨_, _, _, _, he, .of_k0 k4, fun W5 hW5 => ?_⟩⟩
    have k5 : K0 w4 W5 := hW5.kk rfl
    have hc5 : W5.heap[n1]? = some (.cells #[.int .u8 x.k, .slice x.p x.gs.length x.c, .int .i64 x.a] 50 (0, 0)) := hW5.cells 0 rfl
    refine ⟨fun w' => K0 W5 w', .refl _ _, x.a, fun w' k => cell_at (k.blk hc5 (fun h => h)) rfl, ⟨(aclfirst_any G pg cg W5 (hS.k0 ((k2.trans k4).trans k5))).mono fun e w6 ⟨he, hw⟩ => ⟨_, he, by rw [hw]; exact .refl _ _, ?_⟩⟩⟩
    subst hw
    have k06 := ((k01.trans k2).trans k4).trans k5
    exact ⟨(acremove_any (h.k0 k06) (fstL G) (by omega) x.a hx.a).mono fun e w7 ⟨he, m', hTs⟩ => ⟨_, he, hN hTs.k, ⟨p3, c3, _, rfl, (hU.k0 k5).tb (h.k0 k06).z hTs.k, fun e => by rw [e]; simp⟩, m', (h.same k06).trans hTs⟩⟩
  · have hb : ¬ x.k % 8 = 0 := by simpa using hb
    have hb1 : ¬ x.k % 8 = 1 := by simpa using hb1
    have hb6 : ¬ x.k % 8 = 6 := by simpa using hb6
    have hb7 : ¬ x.k % 8 = 7 := by simpa using hb7
    have e1 : opX A2 x.k G x.a = (asR A2 G).1 := by unfold opX; rw [if_neg hb, if_neg hb1, if_neg (by omega)]
    have e2 : opX A x.k G x.a = (asR A G).1 := by unfold opX; rw [if_neg hb, if_neg hb1, if_neg (by omega)]
    rw [e1, e2]
    refine ⟨(acxassign_any (hT.k0 k01) hwf hn hsm c hc G pg cg hS (by omega)).mono fun e w3 ⟨⟨p3, c3, q3, d3, he, hU, hNr⟩, k3⟩ => ⟨_, _, _, _, _, _, _, he, .of_k0 k3, ?_⟩⟩
    have k03 := k01.trans k3
    have h3 := h.k0 k03
    refine ⟨(acassign_any h3 G pg cg (hS.k0 k3) (hTy.k0 k3) (by omega) hle hgz).mono fun e w4 ⟨⟨p4, c4, he, hr4, ht4⟩, m', hTs⟩ => ⟨_, _, _, _, he, hN hTs.k, ?_⟩⟩
    have hU4 := hU.tb h3.z hTs.k
    have hN4 := hNr.tb h3.z hTs.k
    have hS4 : StrP w4 pg G := (hS.k0 k3).kp hTs.k (fun b o e => by
      obtain ⟨cc, ff, hcc⟩ := (hTy.k0 k3) b o e
      exact h3.z.not_ty hcc (by decide))
    have hT4 := (h.same k03).trans hTs
    have hzp := asR_zip A G
    refine bsp_intro (fun hg => ⟨⟨p3, c3, _, rfl, hU4, fun e => ?_⟩, m', hT4⟩) (fun hg => ?_)
    · subst e
      exfalso
      revert hg
      simp [hzp]
    have hg : (asR A G).2.2 = (asR A2 G).2.2 ∧ (G.zip (asR A G).2.1).length = (asR A2 G).2.1.length := by
      simp only [Bool.or_eq_false_iff, bne_eq_false_iff_eq] at hg
      exact ⟨hg.1, by have := hg.2; omega⟩
    have hzl : (G.zip (asR A G).2.1).length ≤ G.length := by rw [List.length_zip]; omega
    refine ⟨fun vs w' => ∃ i : Nat, vs = [.int .i64 (i : Int)] ∧ i ≤ (G.zip (asR A G).2.1).length ∧ K0 w4 w', fun vs _ => (match vs with | .int _ a :: _ => (G.zip (asR A G).2.1).length - a.toNat | _ => 0), ⟨0, rfl, by omega, .refl _ _⟩, ?_⟩
    rintro xi w5 ⟨i, hv, hi, k5⟩ hL5
    simp only [List.cons.injEq, Value.int.injEq, true_and, and_true] at hv
    subst hv
    refine bsp_intro (fun hlt => ?_) (fun hge => ⟨⟨p3, c3, _, rfl, hU4.k0 k5, fun _ => rfl⟩, m', hT4.k0 k5⟩)
    have hlt : i < (G.zip (asR A G).2.1).length := by simp only [decide_eq_true_eq] at hlt; omega
    obtain ⟨y, yb, yo, hy, hpy, haty⟩ := (hr4.k0 k5).get hlt
    obtain ⟨s, sb, so, hs, hps, hcs⟩ := (hS4.k0 k5).get (k := i) (by omega)
    obtain ⟨v, vb, vo, hv, hpv, hatv⟩ := (hN4.k0 k5).row.get (k := i) (by omega)
    rw [Nat.mul_one] at hatv
    have hcv := hatv.cell (j := 0) rfl
    rw [Nat.add_zero] at hcv
    rw [Int.toNat_natCast]
    refine nn_is hpy ⟨⟨by omega, by omega⟩, y.1, y.2, fun W6 hW6 => haty.k0 (hW6.kk rfl), nn_is hps ⟨⟨by omega, by omega⟩, s, fun W6 hW6 => (hW6.kk rfl : K0 w5 W6).cell' hcs (fun h => h), nn_is hpv ⟨⟨by omega, by omega⟩, v, fun W6 hW6 => (hW6.kk rfl : K0 w5 W6).cell' hcv (fun h => h), _, plEq27 y.1 s y.2 v, bsp_intro (fun hr W6 hW6 => ?_) (fun hr W6 hW6 => ?_)⟩⟩⟩
    · refine ⟨⟨p3, c3, _, rfl, hU4.k0 (k5.trans (hW6.kk rfl)), fun e => ?_⟩, m', hT4.k0 (k5.trans (hW6.kk rfl))⟩
      subst e
      exfalso
      rw [List.getElem?_zip_eq_some, hs, hv] at hy
      obtain ⟨e1, e2⟩ := hy
      cases e1
      cases e2
      simp at hr
    · rw [inc64 (by omega)]
      exact ⟨⟨i + 1, rfl, hlt, k5.trans (hW6.kk rfl)⟩, by simp only [Int.toNat_natCast]; omega⟩
end

end Go.Proofs.YtgmmoghagpmpfaaGreatDoor

/- Chapter 27: the law's state and play. The library's variable MaxLen holds a number. -/
namespace Go.Proofs.YtgmmoghagpmpfaaGreatDoor
open Go.RowKit Go.Sort Go.Maps

/-- The table behind operations. -/
def plyT (l : List OpY) : TA := l.foldl (fun A x => opX A x.k (nmL x.gs) x.a) []
theorem plyT_snoc (l : List OpY) (x : OpY) : plyT (l ++ [x]) = opX (plyT l) x.k (nmL x.gs) x.a := by unfold plyT; rw [List.foldl_append]; rfl
theorem hi_opX {A : TA} (h : WF A) (k : Int) (l : List ByteArray) (n : Int) {s : ByteArray} {u : Gv} (hg : aget (opX A k l n) s = some u) : (∃ v, aget A s = some v ∧ u.h ≤ v.h + 1) ∨ u.h = 0 := by
  unfold opX at hg
  split at hg
  · rw [opA_get h] at hg
    split at hg
    · rename_i e
      subst e
      cases hA : aget A (fstL l) with
      | none =>
        rw [hA] at hg
        unfold opG at hg
        simp only at hg
        split at hg
        · cases hg
        split at hg
        · cases hg
        · cases hg; exact .inr rfl
      | some v =>
        rw [hA] at hg
        unfold opG at hg
        simp only at hg
        refine .inl ⟨v, rfl, ?_⟩
        split at hg
        · cases hg; omega
        split at hg
        · cases hg; omega
        · cases hg; show v.h ≤ v.h + 1; omega
    · exact .inl ⟨u, hg, by omega⟩
  split at hg
  · rw [clA_get] at hg
    split at hg
    · rename_i e
      subst e
      cases hA : aget A (fstL l) with
      | none => rw [hA] at hg; cases hg
      | some v => rw [hA] at hg; cases hg; exact .inl ⟨v, rfl, by show v.h ≤ v.h + 1; omega⟩
    · exact .inl ⟨u, hg, by omega⟩
  split at hg
  · rw [rmA_get] at hg
    split at hg
    · rename_i e
      subst e
      cases hA : aget A (fstL l) with
      | none => rw [hA] at hg; cases hg
      | some v =>
        rw [hA] at hg
        unfold rmG at hg
        simp only at hg
        refine .inl ⟨v, rfl, ?_⟩
        split at hg
        · cases hg; show v.h ≤ v.h + 1; omega
        · cases hg; omega
    · exact .inl ⟨u, hg, by omega⟩
  · rcases asR_get (A := A) l s with e | ⟨v, g1, _, _, _, _, g3⟩
    · exact .inl ⟨u, by rw [← e]; exact hg, by omega⟩
    · rw [hg] at g3
      cases g3
      exact .inl ⟨v, g1, Int.le_refl _⟩
theorem Sm.opX {A : TA} {j : Nat} (h : WF A) (hs : Sm j A) (k : Int) (l : List ByteArray) (n : Int) : Sm (j + 1) (opX A k l n) := fun p hp => by
  rcases hi_opX h k l n (aget_at (wf_opX h k l n).dis hp) with ⟨v, h1, h2⟩ | h1
  · have : v.h ≤ (j : Int) := hs _ (aget_mem h1)
    omega
  · rw [h1]; omega
theorem Sm.mono {A : TA} {j k : Nat} (hs : Sm j A) (h : j ≤ k) : Sm k A := fun p hp => by have := hs p hp; omega
/-- What operations keep. -/
structure Pl27 (A : TA) (n : Nat) : Prop where
  wf : WF A
  len : A.length ≤ n
  sm : Sm n A
theorem Pl27.op {A : TA} {n : Nat} (h : Pl27 A n) (k : Int) (l : List ByteArray) (a : Int) : Pl27 (opX A k l a) (n + 1) := ⟨wf_opX h.wf _ _ _, by have := opX_len A k l a; have := h.len; omega, Sm.opX h.wf h.sm _ _ _⟩
theorem Pl27.nil : Pl27 [] 0 := ⟨WF.nil, Nat.le_refl _, fun p hp => by cases hp⟩
theorem Pl27.fold : ∀ (l : List OpY) {A : TA} {n : Nat}, Pl27 A n → Pl27 (l.foldl (fun A x => opX A x.k (nmL x.gs) x.a) A) (n + l.length)
  | [], _, _, h => h
  | x :: l, A, n, h => by
    have := Pl27.fold l (h.op x.k (nmL x.gs) x.a)
    rw [List.foldl_cons, List.length_cons, show n + (l.length + 1) = n + 1 + l.length by omega]
    exact this
theorem plyT_ok (l : List OpY) : Pl27 (plyT l) l.length := by
  have := Pl27.fold l .nil
  rwa [Nat.zero_add] at this
theorem Pl27.ivl {A : TA} {n : Nat} (h : Pl27 A n) {p : ByteArray × Gv} (hp : p ∈ A) : p.2.l.length ≤ n := Nat.le_trans (ivs_len (h.wf.iv p hp)) (h.sm.len h.wf hp)
section
variable {w : World} {B b mb : Nat} {m : TM} {A : TA}
set_option maxHeartbeats 2000000 in
theorem aclstate_any {p : Option Addr} (h : Tq w B b mb m A) (hU : ∃ R, RowT w p R A) (hsm : Sm 1000000 A) (c : Nat) (hG : GW w) :
    Calls Tryz.prog 21 #[.pointer (some ⟨b, 0, none⟩), .slice p A.length c] w fun e w' => e = .returned (.bool true) ∧ K0 w w' := by
  obtain ⟨R, hT⟩ := hU
  have hlen := h.len
  refine vc_aclstate b p A.length c w _ ⟨(acgroups_any h hG).mono fun e w1 ⟨⟨p1, c1, he, ho⟩, k1⟩ => ⟨_, _, _, he, .of_k0 k1, bsp_intro (fun hb => ?_) (fun _ => ?_)⟩⟩
  · simp at hb
  have hS : StrP w1 p1 (A.map (·.1)) := strP_own ho (Nat.le_refl _)
  refine ⟨fun vs w' => ∃ i : Nat, vs = [.int .i64 (i : Int)] ∧ i ≤ A.length ∧ K0 w1 w', fun vs _ => (match vs with | .int _ a :: _ => A.length - a.toNat | _ => 0), ⟨0, rfl, by omega, .refl _ _⟩, ?_⟩
  rintro xi w2 ⟨i, hv, hi, k2⟩
  simp only [List.cons.injEq, Value.int.injEq, true_and, and_true] at hv
  subst hv
  have k02 := k1.trans k2
  refine bsp_intro (fun hlt => ?_) (fun hge => ⟨rfl, k02⟩)
  have hlt : i < A.length := by simp at hlt; omega
  obtain ⟨x, b1, o, hx, hp, hat⟩ := (hT.row.k0 k02).get (k := i) (by rw [hT.len]; exact hlt)
  have hxA := hT.at hx
  have hg := hT.found h.wf.dis hx
  have hmx := List.mem_of_getElem? hx
  obtain ⟨hnm, hh0, hh1, hiv⟩ := h.wf.get hg
  have hzs := name_size hnm
  have hle : (exI x.v.l).length ≤ 1000000 := hsm.len h.wf (aget_mem hg)
  rw [Int.toNat_natCast]
  refine nn_is hp ⟨⟨by omega, by omega⟩, x.s, hat.cell (j := 0) rfl, ⟨(acget_any (h.k0 k02) x.s (by omega)).mono fun e w3 ⟨he, k3⟩ => ?_⟩⟩
  rw [hg] at he
  refine ⟨_, _, _, _, _, _, he, .of_k0 k3, fun n2 W hW => ?_⟩
  have kW : K0 w3 W := hW.kk rfl
  have k2W := k3.trans kW
  have hcn : W.heap[n2]? = some (.cells #[.string x.s, .int .i64 (lowI x.v), .int .i64 x.v.h, .int .i64 ((exI x.v.l).length : Nat), .bool x.v.c] 31 (0, 0)) := hW.cells 0 rfl
  obtain ⟨s, sb, so, hs, hps, hcs⟩ := ((hS.k0 k2).k0 k2W).get (k := i) (by simpa using hlt)
  have hss : s = x.s := by
    rw [List.getElem?_map, hxA] at hs
    cases hs; rfl
  subst hss
  have hatW := hat.k0 k2W
  refine ⟨fun w' => K0 W w', .refl _ _, nn_is hps ⟨⟨by omega, by simp; omega⟩, x.s, fun w' k => k.cell' hcs (fun h => h), nn_is hp ⟨⟨by omega, by omega⟩, x.s, fun w' k => (hatW.k0 k).cell (j := 0) rfl, x.s, lowI x.v, x.v.h, ((exI x.v.l).length : Nat), x.v.c, gimp_intro fun _ w' k => AtL_block (k.blk hcn (fun h => h)) rfl,
    nn_is hp ⟨gimp_intro fun _ => ⟨by omega, by omega⟩, x.s, gimp_intro fun _ w' k => (hatW.k0 k).cell (j := 0) rfl, nn_is hp ⟨gimp_intro fun _ => ⟨by omega, by omega⟩, _, _, _, _, _, _, gimp_intro fun _ w' k => hatW.k0 k, nn_is hp ⟨gimp_intro fun _ => ⟨by omega, by omega⟩, x.v.h, gimp_intro fun _ w' k => (hatW.k0 k).cell (j := 1) rfl, nn_is hp ⟨gimp_intro fun _ => ⟨by omega, by omega⟩, x.q, (exI x.v.l).length, x.d, gimp_intro fun _ w' k => (hatW.k0 k).cell (j := 2) rfl, nn_is hp ⟨gimp_intro fun _ => ⟨by omega, by omega⟩, x.v.c, gimp_intro fun _ w' k => (hatW.k0 k).cell (j := 3) rfl, bsp_intro (fun _ => ?_) (fun hb => ?_)⟩⟩⟩⟩⟩⟩⟩⟩
  · refine ⟨(acxlow_any x ((hT.sub x hmx).k0 (k02.trans k2W)) hiv ⟨hh0, hh1⟩).mono fun e w4 ⟨he, k4⟩ => ⟨_, he, k4, _, grEq27 x.s x.s _ _ _ _ _ _ _ _, .of_k0 k4, bsp_intro (fun hb => ?_) (fun _ => ?_)⟩⟩
    · simp at hb
    · rw [inc64 (by omega)]
      exact ⟨⟨i + 1, rfl, hlt, (k2.trans k2W).trans k4⟩, by simp only [Int.toNat_natCast]; omega⟩
  · simp at hb
set_option maxHeartbeats 2000000 in
theorem aclplay_any (ops : List OpY) (q : Option Addr) (d : Nat) (w : World) (hR : RowA opC27 3 w q ops) (hO : ∀ x ∈ ops, OpR27 w x) (hl : ops.length ≤ 4611686018427387904) (hG : GW w) :
    Calls Tryz.prog 22 #[.slice q ops.length d] w fun e w' => (∃ b mb m p c, e = .returned (.tuple #[.pointer (some ⟨b, 0, none⟩), .slice p (plyT (ops.take 40)).length c, .bool true]) ∧ Tq w' w.heap.size b mb m (plyT (ops.take 40)) ∧ RowU w' p c (plyT (ops.take 40))) ∧ K0 w w' := by
  refine vc_aclplay q ops.length d w _ ⟨(acnew_any w (gw_lt hG)).mono fun e w1 ⟨⟨b, mb, he, hT1⟩, k1⟩ => ⟨_, he, .of_k0 k1, ?_⟩⟩
  refine ⟨fun vs w' => ∃ (i : Nat) (m : TM) (p : Option Addr) (c : Nat), vs = [.int .i64 (i : Int), .slice p (plyT (ops.take i)).length c] ∧ i ≤ ops.length ∧ i ≤ 40 ∧ Tq w' w.heap.size b mb m (plyT (ops.take i)) ∧ RowU w' p c (plyT (ops.take i)) ∧ K0 w w',
    fun vs _ => (match vs with | .int _ a :: _ => ops.length - a.toNat | _ => 0), ⟨0, [], none, 0, rfl, by omega, by omega, hT1, ⟨[], .nil, Nat.le_refl _⟩, k1⟩, ?_⟩
  rintro xi p1 n1 c1 w2 ⟨i, m, p, c, hv, hi, hi4, hq, ⟨R, hT, hc⟩, k2⟩
  simp only [List.cons.injEq, Value.int.injEq, Value.slice.injEq, true_and, and_true] at hv
  obtain ⟨rfl, rfl, rfl, rfl⟩ := hv
  refine bsp_intro (fun hlt => ?_) (fun hge => ?_)
  · have hlt : i < ops.length ∧ i < 40 := by simp at hlt; omega
    obtain ⟨x, xb, xo, hx, hp, hat⟩ := (hR.k0 k2).get hlt.1
    rw [Int.toNat_natCast]
    have hok := plyT_ok (ops.take i)
    have hil : (ops.take i).length ≤ 40 := by rw [List.length_take]; omega
    have hlA := hok.len
    refine nn_is hp ⟨⟨by omega, by omega⟩, _, _, _, _, _, hat, ⟨(acldo_any hq hT hok.wf (by omega) (hok.sm.mono (by omega)) c1 hc x ((hO x (List.mem_of_getElem? hx)).k0 k2) (gk0 hG k2)).mono fun e w3 ⟨⟨p', c', ok, he, hU, hok'⟩, m', hTs⟩ => ⟨_, _, _, _, he, ⟨hTs.k.size, fun _ hm => by cases hm⟩, bsp_intro (fun hb => ?_) (fun _ => ?_)⟩⟩⟩
    · rw [hok' rfl] at hb; cases hb
    · rw [inc64 (by omega)]
      rw [← plyT_snoc, ← take_snoc hx] at hU hTs ⊢
      exact ⟨⟨i + 1, m', p', c', rfl, by omega, by omega, hTs.t, hU, hTs.base hq.z k2 (Nat.le_refl _)⟩, by simp only [Int.toNat_natCast]; omega⟩
  · have hge : ops.length ≤ i ∨ 40 ≤ i := by simp at hge; omega
    have e : ops.take i = ops.take 40 := by
      rcases hge with h | h
      · rw [List.take_of_length_le h, List.take_of_length_le (by omega)]
      · rw [show i = 40 by omega]
    rw [e] at hq hT hc ⊢
    exact ⟨⟨b, mb, m, p1, c1, rfl, hq, R, hT, hc⟩, k2⟩
end

end Go.Proofs.YtgmmoghagpmpfaaGreatDoor

/- The formulas of functions by the symbolic evaluator, and that each gives the call's contract. Written by a program (gen.py). No condition. -/
namespace Go.Proofs.YtgmmoghagpmpfaaGreatDoor
set_option maxRecDepth 100000
set_option linter.unusedVariables false

def VC_aclclones (p : Option Addr) (n : Nat) (c : Nat) (q : Option Addr) (k : Nat) (d : Nat) (w : World) (R : Ending → World → Prop) : Prop :=
 CallsS Tryz.prog 15 #[] w fun (e : Ending) (w' : World) =>
 ∃ (x : Bool),
 e = Ending.returned (Value.bool x) ∧
 KeptL [] w w' ∧
 bsp (!x) (R (Ending.returned (Value.bool false)) w')
 (((0 ≤ if 30 < (↑n : Int) then 30 else (↑n : Int)) ∧ (if 30 < (↑n : Int) then 30 else (↑n : Int)) ≤ (↑c : Int)) ∧
 CallsS Tryz.prog 22 #[Value.slice p (if 30 < (↑n : Int) then 30 else (↑n : Int)).toNat c] w'
 fun (e : Ending) (w'_1 : World) =>
 ∃ (x : Option Addr),
 ∃ (p : Option Addr),
 ∃ (n : Nat),
 ∃ (c : Nat),
 ∃ (x_1 : Bool),
 e = Ending.returned (Value.tuple #[Value.pointer x, Value.slice p n c, Value.bool x_1]) ∧
 KeptL [] w' w'_1 ∧
 CallsS Tryz.prog 35 #[Value.pointer x] w'_1 fun (e : Ending) (w' : World) =>
 ∃ (x_2 : Option Addr),
 e = Ending.returned (Value.pointer x_2) ∧
 KeptL [] w'_1 w' ∧
 bsp (!(!x_1 || x_2.isNone))
 (CallsS Tryz.prog 24 #[Value.pointer x_2, Value.pointer x] w' fun (e : Ending) (w'_2 : World) =>
 ∃ (x_3 : Bool),
 e = Ending.returned (Value.bool x_3) ∧
 KeptL [] w' w'_2 ∧
 bsp (false || !x_3) (R (Ending.returned (Value.bool false)) w'_2)
 (CallsS Tryz.prog 17 #[Value.pointer x] w'_2 fun (e : Ending) (w' : World) =>
 ∃ (x_4 : ByteArray),
 e = Ending.returned (Value.string x_4) ∧
 KeptL [] w'_2 w' ∧
 ∃ (I : List Value → World → Prop),
 ∃ (m : List Value → World → Nat),
 I [Value.int IntKind.i64 0] w' ∧
 ∀ (x_5 : Int) (w' : World),
 I [Value.int IntKind.i64 x_5] w' →
 bsp (decide (x_5 < (↑k : Int)) && decide (x_5 < 5))
 (nn true q fun (b o : Nat) =>
 (0 ≤ x_5 ∧ x_5 < (↑k : Int)) ∧
 ∃ (x : Int),
 ∃ (p : Option Addr),
 ∃ (n : Nat),
 ∃ (c : Nat),
 ∃ (x_6 : Int),
 AtL w' b (o + x_5.toNat * 3)
 [Value.int IntKind.u8 x, Value.slice p n c, Value.int IntKind.i64 x_6] ∧
 CallsS Tryz.prog 20
 #[Value.pointer x_2, Value.slice none 0 0,
 Value.agg
 #[Value.int IntKind.u8 x, Value.slice p n c, Value.int IntKind.i64 x_6]]
 w' fun (e : Ending) (w'_3 : World) =>
 ∃ (p : Option Addr),
 ∃ (n : Nat),
 ∃ (c : Nat),
 ∃ (x : Bool),
 e = Ending.returned (Value.tuple #[Value.slice p n c, Value.bool x]) ∧
 KeptL [] w' w'_3 ∧
 I [Value.int IntKind.i64 (IntKind.i64.wrap (x_5 + 1))] w'_3 ∧
 m [Value.int IntKind.i64 (IntKind.i64.wrap (x_5 + 1))] w'_3 <
 m [Value.int IntKind.i64 x_5] w')
 (CallsS Tryz.prog 17 #[Value.pointer x] w' fun (e : Ending) (w'_3 : World) =>
 ∃ (x_6 : ByteArray),
 e = Ending.returned (Value.string x_6) ∧
 KeptL [] w' w'_3 ∧
 bsp (x_6.toList == x_4.toList)
 (CallsS Tryz.prog 24 #[Value.pointer x_2, Value.pointer x] w'_3
 fun (e : Ending) (w' : World) =>
 ∃ (x_7 : Bool),
 e = Ending.returned (Value.bool x_7) ∧
 KeptL [] w'_3 w' ∧
 CallsS Tryz.prog 17 #[Value.pointer x_2] w'
 fun (e : Ending) (w'_4 : World) =>
 ∃ (x_8 : ByteArray),
 e = Ending.returned (Value.string x_8) ∧
 KeptL [] w' w'_4 ∧
 bsp (true && x_7 == (x_8.toList == x_4.toList))
 (CallsS Tryz.prog 24 #[Value.pointer x, Value.pointer x_2] w'_4
 fun (e : Ending) (w' : World) =>
 ∃ (x_9 : Bool),
 e = Ending.returned (Value.bool x_9) ∧
 KeptL [] w'_4 w' ∧
 CallsS Tryz.prog 24 #[Value.pointer x_2, Value.pointer x] w'
 fun (e : Ending) (w'_5 : World) =>
 ∃ (x : Bool),
 e = Ending.returned (Value.bool x) ∧
 KeptL [] w' w'_5 ∧
 R (Ending.returned (Value.bool (true && x_9 == x))) w'_5)
 (KeptL [] w'_4 w'_4 ∧
 KeptL [] w'_4 w'_4 ∧ R (Ending.returned (Value.bool false)) w'_4))
 (KeptL [] w'_3 w'_3 ∧
 KeptL [] w'_3 w'_3 ∧
 KeptL [] w'_3 w'_3 ∧
 KeptL [] w'_3 w'_3 ∧ R (Ending.returned (Value.bool false)) w'_3))))
 (KeptL [] w' w' ∧ R (Ending.returned (Value.bool false)) w'))
theorem vc_aclclones (p : Option Addr) (n : Nat) (c : Nat) (q : Option Addr) (k : Nat) (d : Nat) (w : World) (R : Ending → World → Prop) (h : VC_aclclones p n c q k d w R) : Calls Tryz.prog 10 ([Value.slice
    p n c,
  Value.slice q k d] : List Value).toArray w R := by
  have e : execR2 { P := Tryz.prog, loops := [(10, [(11, Ck.int IntKind.i64)])], pur := pur1, tails := [], joins := [], boxes := [] } Tryz.f10.results.toList R (Tryz.f10.body.getD .skip) (initF [Value.slice
    p n c,
  Value.slice q k
    d] (Tryz.f10.ntmps - ([Value.slice p n c,
  Value.slice q k d] : List Value).length)) w = VC_aclclones p n c q k d w R := by kernel_rfl
  have hb : Tryz.f10.body = some (Tryz.f10.body.getD .skip) := by kernel_rfl
  exact calls_of_exec2' (P := Tryz.prog) (fn := Tryz.f10) (c := Tryz.f10.body.getD .skip) (args := [Value.slice p n c,
  Value.slice q k d]) (w := w) (R := R) pur1_ok Tryz.func10 hb e h

end Go.Proofs.YtgmmoghagpmpfaaGreatDoor

/- Chapter 27: ActiveClones on worlds. The library's variable MaxLen holds a number, its table of powers of ten reads as laid. -/
namespace Go.Proofs.YtgmmoghagpmpfaaGreatDoor
open Go.RowKit Go.Sort Go.Maps

theorem RowA.take27 {α : Type} {f : α → List Value} {L : Nat} {w : World} {p : Option Addr} {l : List α} (h : RowA f L w p l) (n : Nat) : RowA f L w p (l.take n) := fun k y hy => h k y (by
  rw [List.getElem?_take] at hy
  split at hy
  · exact hy
  · cases hy)
theorem min30 (n : Nat) : (if (30 : Int) < (n : Int) then (30 : Int) else (n : Int)).toNat = min 30 n := by split <;> omega
theorem take30 {α : Type} (l : List α) : (l.take 30).take 40 = l.take 30 := by rw [List.take_take]; rfl
/-- Operations on a table. -/
def plyF (A : TA) (l : List OpY) : TA := l.foldl (fun A x => opX A x.k (nmL x.gs) x.a) A
theorem plyF_snoc (A : TA) (l : List OpY) (x : OpY) : plyF A (l ++ [x]) = opX (plyF A l) x.k (nmL x.gs) x.a := by unfold plyF; rw [List.foldl_append]; rfl
theorem plyF_ok {A : TA} {n : Nat} (h : Pl27 A n) (l : List OpY) : Pl27 (plyF A l) (n + l.length) := Pl27.fold l h
set_option maxHeartbeats 2000000 in
theorem lacclones_any (p0 : Option Addr) (c0 : Nat) (L0 : List OpY) (p1 : Option Addr) (c1 : Nat) (L1 : List OpY) (w : World) (hR0 : RowA opC27 3 w p0 L0) (hL0 : ∀ x ∈ L0, OpR27 w x) (hn0 : L0.length ≤ 4611686018427387904) (hc0 : L0.length ≤ c0) (hR1 : RowA opC27 3 w p1 L1) (hL1 : ∀ x ∈ L1, OpR27 w x) (hn1 : L1.length ≤ 4611686018427387904) (hG : GW w) (hGT : GT w) :
    Calls Tryz.prog 10 #[.slice p0 L0.length c0, .slice p1 L1.length c1] w fun e w' => e = .returned (.bool true) ∧ K0 w w' := by
  refine vc_aclclones p0 L0.length c0 p1 L1.length c1 w _ ⟨(acknown_any w hG hGT).mono fun e w1 ⟨he, k1⟩ => ⟨_, he, .of_k0 k1, bsp_intro (fun h => by cases h) (fun _ => ⟨⟨by split <;> omega, by split <;> omega⟩, ?_⟩)⟩⟩
  rw [min30, show min 30 L0.length = (L0.take 30).length by rw [List.length_take]]
  have hp := aclplay_any (L0.take 30) p0 c0 w1 ((hR0.k0 k1).take27 30) (fun x hx => (hL0 x (List.mem_of_mem_take hx)).k0 k1) (by rw [List.length_take]; omega) (gk0 hG k1)
  rw [take30] at hp
  refine ⟨hp.mono fun e w2 ⟨⟨b, mb, m, p, c, he, hq, hU⟩, k2⟩ => ⟨_, _, _, _, _, he, .of_k0 k2, ?_⟩⟩
  have hok := plyT_ok (L0.take 30)
  have hl30 : (L0.take 30).length ≤ 30 := by rw [List.length_take]; omega
  generalize plyT (L0.take 30) = A at *
  generalize (L0.take 30).length = N at *
  have k02 := k1.trans k2
  have hG2 := gk0 hG k02
  refine ⟨(acclone_any hq (gw_lt hG2)).mono fun e w3 ⟨⟨d, md, mD, he, hC⟩, k3⟩ => ⟨_, he, .of_k0 k3, bsp_intro (fun _ => ?_) (fun h => by cases h)⟩⟩
  have k03 := k02.trans k3
  have hbl : b < w2.heap.size := block_lt hq.z.st
  have htl : ∀ k, Tb mb m k → k < w2.heap.size := fun k hk => (hq.z.tb hk).2.1
  have hq3 := hq.k0 k3
  refine ⟨(acequal_any hC hq3).mono fun e w4 ⟨⟨r, he, hr⟩, k4⟩ => ⟨_, he, .of_k0 k4, bsp_intro (fun h => by rw [hr.2 rfl] at h; cases h) (fun _ => ?_)⟩⟩
  have k04 := k03.trans k4
  refine ⟨(acprint_any (hq3.k0 k4) (gk0 hG k04) (hGT.k0 k04) (fun x hx => by have := hok.ivl hx; omega)).mono fun e w5 ⟨he, k5⟩ => ⟨_, he, .of_k0 k5, ?_⟩⟩
  have k05 := k04.trans k5
  refine ⟨fun vs w' => ∃ (i : Nat) (mD : TM), vs = [.int .i64 (i : Int)] ∧ i ≤ L1.length ∧ i ≤ 5 ∧ Tq w' w2.heap.size d md mD (plyF A (L1.take i)) ∧ Tq w' w1.heap.size b mb m A ∧ K0 w w',
    fun vs _ => (match vs with | .int _ a :: _ => L1.length - a.toNat | _ => 0), ⟨0, mD, rfl, by omega, by omega, hC.k0 (k4.trans k5), hq3.k0 (k4.trans k5), k05⟩, ?_⟩
  rintro xi w6 ⟨i, mD, hv, hi, hi5, hC6, hq6, k6⟩
  simp only [List.cons.injEq, Value.int.injEq, true_and, and_true] at hv
  subst hv
  have hok6 := plyF_ok hok (L1.take i)
  have hil : (L1.take i).length ≤ 5 := by rw [List.length_take]; omega
  have hlen := hok.len
  have hlen6 := hok6.len
  refine bsp_intro (fun hlt => ?_) (fun hge => ?_)
  · have hlt : i < L1.length ∧ i < 5 := by simp at hlt; omega
    obtain ⟨x, xb, xo, hx, hpx, hat⟩ := (hR1.k0 k6).get hlt.1
    rw [Int.toNat_natCast]
    have hdo := acldo_any (A2 := []) hC6 (RowT.nil (w := w6)) WF.nil (by decide) (fun p hp => by cases hp) 0 (Nat.le_refl _) x ((hL1 x (List.mem_of_getElem? hx)).k0 k6) (gk0 hG k6)
    refine nn_is hpx ⟨⟨by omega, by omega⟩, _, _, _, _, _, hat, ⟨hdo.mono fun e w7 ⟨⟨p', c', ok, he, _, _⟩, m', hTs⟩ => ⟨_, _, _, _, he, ⟨hTs.k.size, fun _ hm => by cases hm⟩, ?_⟩⟩⟩
    rw [inc64 (by omega)]
    rw [← plyF_snoc, ← take_snoc hx] at hTs
    exact ⟨⟨i + 1, m', rfl, by omega, by omega, hTs.t, hq6.kp hTs.k (fun e => by have := (hC6.z.tb e).1; omega) (fun k hk e => by have := htl k hk; have := (hC6.z.tb e).1; omega), hTs.base hC6.z k6 k02.size⟩, by simp only [Int.toNat_natCast]; omega⟩
  generalize plyF A (L1.take i) = C at *
  refine ⟨(acprint_any hq6 (gk0 hG k6) (hGT.k0 k6) (fun x hx => by have := hok.ivl hx; omega)).mono fun e w7 ⟨he, k7⟩ => ⟨_, he, .of_k0 k7, bsp_intro (fun _ => ?_) (fun h => by rw [str_beq] at h; simp at h)⟩⟩
  refine ⟨(acequal_any (hC6.k0 k7) (hq6.k0 k7)).mono fun e w8 ⟨⟨r, he, hr⟩, k8⟩ => ⟨_, he, .of_k0 k8, ?_⟩⟩
  have k08 := (k6.trans k7).trans k8
  refine ⟨(acprint_any ((hC6.k0 k7).k0 k8) (gk0 hG k08) (hGT.k0 k08) (fun x hx => by have := hok6.ivl hx; omega)).mono fun e w9 ⟨he, k9⟩ => ⟨_, he, .of_k0 k9, ?_⟩⟩
  have e1 : ((prT C).toList == (prT A).toList) = r := by
    rw [str_beq, Bool.eq_iff_iff, hr, decide_eq_true_eq]
    exact ⟨fun h => prT_inj hok6.wf hok.wf (by omega) (by omega) h, fun h => by rw [h]⟩
  rw [e1]
  refine bsp_intro (fun _ => ?_) (fun h => by simp at h)
  have kk := (k7.trans k8).trans k9
  refine ⟨(acequal_any (hq6.k0 kk) (hC6.k0 kk)).mono fun e w10 ⟨⟨r1, he, hr1⟩, k10⟩ => ⟨_, he, .of_k0 k10, ?_⟩⟩
  refine ⟨(acequal_any ((hC6.k0 kk).k0 k10) ((hq6.k0 kk).k0 k10)).mono fun e w11 ⟨⟨r2, he, hr2⟩, k11⟩ => ⟨_, he, .of_k0 k11, ?_, (((k6.trans kk).trans k10).trans k11)⟩⟩
  have e2 : r1 = r2 := by
    rw [Bool.eq_iff_iff, hr1, hr2]
    exact ⟨fun h => h.symm, fun h => h.symm⟩
  rw [e2]
  simp

end Go.Proofs.YtgmmoghagpmpfaaGreatDoor

/- Chapter 27: the reference's Ranges and Print. Printed by mkxc27.py. Lists of numbers are not too long. -/
namespace Go.Proofs.YtgmmoghagpmpfaaGreatDoor
open Go.RowKit Go.Sort Go.Maps

theorem z44 : (ByteArray.mk #[44]).size = 1 := rfl
theorem z45 : (ByteArray.mk #[45]).size = 1 := rfl
theorem IvS.take {hi : Int} : ∀ {lo : Int} {l : List Iv} (j : Nat), IvS hi lo l → IvS hi lo (l.take j)
  | _, [], j, _ => by rw [List.take_nil]; trivial
  | _, _ :: _, 0, _ => trivial
  | _, _ :: _, j + 1, ⟨h1, h2, h3, h4⟩ => ⟨h1, h2, h3, IvS.take j h4⟩
theorem rngT_snoc {l : List Iv} {j : Nat} {y : Iv} (hy : l[j]? = some y) : rngT (l.take (j + 1)) = (if j = 0 then ivT y else rngT (l.take j) ++ ⟨#[44]⟩ ++ ivT y) := by
  unfold rngT
  rw [take_snoc hy, List.map_append]
  by_cases hj : j = 0
  · subst hj
    rw [if_pos rfl]; rfl
  · rw [if_neg hj]
    refine joinT_snoc 44 ?_ _
    intro e
    have := congrArg List.length e
    rw [List.length_map, List.length_take] at this
    have := (List.getElem?_eq_some_iff.1 hy).1
    simp only [List.length_nil] at *
    omega
theorem nil_app (s : ByteArray) : (⟨#[]⟩ : ByteArray) ++ s = s := by
  show ByteArray.empty ++ s = s
  simp
section
variable {w : World}
set_option maxRecDepth 100000 in
set_option maxHeartbeats 8000000 in
theorem acxranges_any (l : List Iv) (p : Option Addr) (d : Nat) {hi : Int} (hR : RowN w p (exI l) d) (hiv : IvS hi 1 l) (hh : hi ≤ 2147483646) (hl : (exI l).length ≤ 1000000) :
    Calls Tryz.prog 58 #[.slice p (exI l).length d] w fun e w' => e = .returned (.string (rngT l)) ∧ K0 w w' := by
  have hll : l.length ≤ 1000000 := Nat.le_trans (ivs_len hiv) hl
  refine vc_acxranges p (exI l).length d w _ ⟨fun vs w' => ∃ (i j : Nat), vs = [.int .i64 (i : Int), .string (rngT (l.take j))] ∧ j ≤ l.length ∧ i ≤ offI l j ∧ (∀ j', j = j' + 1 → offI l j' < i) ∧ K0 w w',
    fun vs _ => (match vs with | .int _ a :: _ => (exI l).length - a.toNat | _ => 0), ⟨0, 0, rfl, by omega, by omega, fun j' e => (by cases e), .refl _ _⟩, ?_⟩
  rintro xi xs w1 ⟨i, j, hv, hj, hij, hlo, k1⟩
  simp only [List.cons.injEq, Value.int.injEq, Value.string.injEq, true_and, and_true] at hv
  obtain ⟨rfl, rfl⟩ := hv
  have hszj := rngT_size hh (hiv.take j)
  rw [List.length_take] at hszj
  refine bsp_intro (fun hlt => ?_) (fun hge => ?_)
  · have hlt : i < (exI l).length := by simp only [decide_eq_true_eq] at hlt; omega
    obtain ⟨v, b, o, hv, hp, hat⟩ := (hR.row.k0 k1).get hlt
    rw [Nat.mul_one] at hat
    have hcv := hat.cell (j := 0) rfl
    rw [Nat.add_zero] at hcv
    have hpv : 0 < i → ∃ b o, p = some ⟨b, o, none⟩ ∧ w1.cell? ⟨b, o + (i - 1), none⟩ = some (.int .i64 (((exI l)[i - 1]?).getD 0)) := fun h0 => by
      obtain ⟨v2, b2, o2, hv2, hp2, hat2⟩ := (hR.row.k0 k1).get (k := i - 1) (by omega)
      rw [Nat.mul_one] at hat2
      have hc2 := hat2.cell (j := 0) rfl
      rw [Nat.add_zero] at hc2
      exact ⟨b2, o2, hp2, by rw [hv2]; exact hc2⟩
    have hvr := hiv.exI (List.mem_of_getElem? hv)
    rw [wr64 (x := (i : Int) - 1) (by omega) (by omega), show ((i : Int) - 1).toNat = i - 1 by omega, Int.toNat_natCast]
    refine nn_is hp ⟨gimp_intro fun h => ⟨by simp only [decide_eq_true_eq] at h; omega, by simp only [decide_eq_true_eq] at h; omega⟩, ((exI l)[i - 1]?).getD 0, gimp_intro fun h W hW => ?_, nn_is hp ⟨gimp_intro fun _ => ⟨by omega, by omega⟩, v, gimp_intro fun _ W hW => (hW.kk rfl : K0 w1 W).cell' hcv (fun h => h), ?_⟩⟩
    · obtain ⟨b2, o2, hp2, hc2⟩ := hpv (by simp only [decide_eq_true_eq] at h; omega)
      rw [hp] at hp2
      cases hp2
      exact (hW.kk rfl : K0 w1 W).cell' hc2 (fun h => h)
    rw [wr64 (x := v - 1) (by omega) (by omega)]
    rcases Nat.lt_or_ge i (offI l j) with hin | hin
    · -- within an interval
      obtain ⟨j', rfl⟩ : ∃ j', j = j' + 1 := by
        cases j with
        | zero => rw [offI_zero] at hin; omega
        | succ j' => exact ⟨j', rfl⟩
      have hlo := hlo j' rfl
      obtain ⟨y, hy⟩ : ∃ y, l[j']? = some y := ⟨_, List.getElem?_eq_getElem (by omega)⟩
      have hym := hiv.mem y (List.mem_of_getElem? hy)
      have hadd := offI_succ hy
      have g1 := getI (t := i - offI l j') hy (by omega)
      have g2 := getI (t := i - 1 - offI l j') hy (by omega)
      rw [show offI l j' + (i - offI l j') = i by omega, hv] at g1
      rw [show offI l j' + (i - 1 - offI l j') = i - 1 by omega] at g2
      have g1 := Option.some.inj g1
      rw [g2]
      refine bsp_intro (fun _ W hW => ?_) (fun hb => ?_)
      · rw [inc64 (by omega)]
        exact ⟨⟨i + 1, j' + 1, rfl, hj, by omega, fun j2 e => by cases e; omega, k1.trans (hW.kk rfl)⟩, by simp only [Int.toNat_natCast]; omega⟩
      · exfalso
        simp only [Option.getD_some] at hb
        have e1 : decide ((i : Int) > 0) = true := by simp only [decide_eq_true_eq]; omega
        have e2 : (y.a + ((i - 1 - offI l j' : Nat) : Int) == v - 1) = true := by simp only [beq_iff_eq]; omega
        rw [e1, e2] at hb
        cases hb
    have hij : i = offI l j := by omega
    subst hij
    have hjl : j < l.length := by
      rcases Nat.lt_or_ge j l.length with h | h
      · exact h
      · rw [show j = l.length by omega, offI_all] at hlt
        omega
    obtain ⟨y, hy⟩ : ∃ y, l[j]? = some y := ⟨_, List.getElem?_eq_getElem hjl⟩
    have hym := hiv.mem y (List.mem_of_getElem? hy)
    have hst := getI (t := 0) hy (by omega)
    rw [Nat.add_zero, hv] at hst
    have hst : v = y.a := by have := Option.some.inj hst; omega
    refine bsp_intro (fun hb => ?_) (fun _ => bsp_intro (fun h0 => ⟨nneg (by simp only [z44]; omega), fun W hW => ?_⟩) (fun h0 W hW => ?_))
    · exfalso
      simp only [Bool.and_eq_true, decide_eq_true_eq, beq_iff_eq] at hb
      obtain ⟨hb1, hb2⟩ := hb
      cases j with
      | zero => rw [offI_zero] at hb1; omega
      | succ j' =>
        obtain ⟨z, hz, h1, h2, h3, h4⟩ := gapI hiv hy
        rw [h3] at hb2
        have hb2 : z.b = v - 1 := hb2
        omega
    · have kW : K0 w W := k1.trans (hW.kk rfl)
      have hj0 : ¬ j = 0 := fun e => by
        subst e
        rw [offI_zero] at h0
        cases h0
      have hnew : rngT (l.take (j + 1)) = rngT (l.take j) ++ ⟨#[44]⟩ ++ ivT y := by rw [rngT_snoc hy, if_neg hj0]

      refine ⟨fun vs w' => ∃ t : Nat, vs = [.int .i64 ((offI l j + t : Nat) : Int)] ∧ (t : Int) ≤ y.b - y.a ∧ K0 w w', fun vs _ => (match vs with | .int _ a :: _ => (exI l).length - a.toNat | _ => 0), ⟨0, rfl, by omega, kW⟩, ?_⟩
      rintro xk w2 ⟨t, hv, ht, k2⟩
      simp only [List.cons.injEq, Value.int.injEq, true_and, and_true] at hv
      subst hv
      have hkt := getI hy ht
      have hktl := (List.getElem?_eq_some_iff.1 hkt).1
      obtain ⟨v1, b1, o1, hv1, hp1, hat1⟩ := (hR.row.k0 k2).get hktl
      rw [hkt] at hv1
      cases hv1
      rw [Nat.mul_one] at hat1
      have hc1 := hat1.cell (j := 0) rfl
      rw [Nat.add_zero] at hc1
      obtain ⟨v0, b0, o0, hv0, hp0, hat0⟩ := (hR.row.k0 k2).get (k := offI l j) hlt
      have hst := getI (t := 0) hy (by omega)
      rw [Nat.add_zero, hv0] at hst
      have hst : v0 = y.a + (0 : Nat) := Option.some.inj hst
      have hst : v0 = y.a := by omega
      subst hst
      rw [Nat.mul_one] at hat0
      have hc0 := hat0.cell (j := 0) rfl
      rw [Nat.add_zero] at hc0
      have hnext : offI l j + t + 1 < (exI l).length → ∃ b o, p = some ⟨b, o, none⟩ ∧ w2.cell? ⟨b, o + (offI l j + t + 1), none⟩ = some (.int .i64 (((exI l)[offI l j + t + 1]?).getD 0)) := fun hlt2 => by
        obtain ⟨v2, b2, o2, hv2, hp2, hat2⟩ := (hR.row.k0 k2).get hlt2
        rw [Nat.mul_one] at hat2
        have hc2 := hat2.cell (j := 0) rfl
        rw [Nat.add_zero] at hc2
        exact ⟨b2, o2, hp2, by rw [hv2]; exact hc2⟩
      have hadd : offI l (j + 1) = offI l j + (y.b - y.a + 1).toNat := offI_succ hy
      rw [inc64 (by omega)]
      simp only [Int.toNat_natCast]
      refine nn_is hp1 ⟨gimp_intro fun h => ⟨by omega, by simp only [decide_eq_true_eq] at h; exact h⟩, ((exI l)[offI l j + t + 1]?).getD 0, gimp_intro fun h W3 hW3 => ?_, nn_is hp1 ⟨gimp_intro fun _ => ⟨by omega, by omega⟩, y.a + (t : Int), gimp_intro fun _ W3 hW3 => (hW3.kk rfl : K0 w2 W3).cell' hc1 (fun h => h), bsp_intro (fun hb W3 hW3 => ?_) (fun hb => ?_)⟩⟩
      · obtain ⟨b2, o2, hp2, hc2⟩ := hnext (by simp only [decide_eq_true_eq] at h; omega)
        rw [hp1] at hp2
        cases hp2
        exact (hW3.kk rfl : K0 w2 W3).cell' hc2 (fun h => h)
      · rw [wr64 (x := y.a + (t : Int) + 1) (by omega) (by omega)] at hb
        simp only [Bool.and_eq_true, decide_eq_true_eq, beq_iff_eq] at hb
        obtain ⟨hb1, hb2⟩ := hb
        have hlt2 : offI l j + t + 1 < (exI l).length := by omega
        obtain ⟨v2, hv2⟩ : ∃ v2, (exI l)[offI l j + t + 1]? = some v2 := ⟨_, List.getElem?_eq_getElem hlt2⟩
        rw [hv2] at hb2
        have hb2 : v2 = y.a + (t : Int) + 1 := hb2
        have ht2 : ((t + 1 : Nat) : Int) ≤ y.b - y.a := by
          rcases Int.lt_or_le (t : Int) (y.b - y.a) with h | h
          · omega
          · exfalso
            have e1 : offI l j + t + 1 = offI l (j + 1) := by omega
            rw [e1] at hv2
            have := endI hiv hy hv2
            omega
        exact ⟨⟨t + 1, rfl, ht2, k2.trans (hW3.kk rfl)⟩, by omega⟩
      rw [wr64 (x := y.a + (t : Int) + 1) (by omega) (by omega)] at hb
      have hend : (t : Int) = y.b - y.a := by
        rcases Int.lt_or_le (t : Int) (y.b - y.a) with h | h
        · exfalso
          have h2 := getI (t := t + 1) hy (by omega)
          rw [show offI l j + (t + 1) = offI l j + t + 1 by omega] at h2
          have h3 := (List.getElem?_eq_some_iff.1 h2).1
          rw [h2] at hb
          simp only [Option.getD_some] at hb
          have e1 : decide (((offI l j + t + 1 : Nat) : Int) < ((exI l).length : Int)) = true := by simp only [decide_eq_true_eq]; omega
          have e2 : (y.a + ((t + 1 : Nat) : Int) == y.a + (t : Int) + 1) = true := by simp only [beq_iff_eq]; omega
          rw [e1, e2] at hb
          cases hb
        · omega
      have z1 := decI_size (i64_nat (x := y.a) (by omega))
      have z2 := decI_size (i64_nat (x := y.b) (by omega))
      refine nn_is hp0 ⟨⟨by omega, by omega⟩, y.a, fun W3 hW3 => (hW3.kk rfl : K0 w2 W3).cell' hc0 (fun h => h), fun W3 hW3 => ?_⟩
      have k3 : K0 w2 W3 := hW3.kk rfl
      refine ⟨(r1digits_any y.a W3 (i64_nat (by omega))).mono fun e w4 ⟨he, k4⟩ => ⟨_, he, .of_k0 k4, nneg (by simp only [ByteArray.size_append, z44]; omega), bsp_intro (fun hg => ?_) (fun hg => ?_)⟩⟩
      · have hg : y.a < y.b := by simp only [decide_eq_true_eq] at hg; omega
        have hc4 := (k3.trans k4).cell' hc1 (fun h => h)
        refine nn_is hp1 ⟨⟨by omega, by omega⟩, y.a + (t : Int), hc4, ?_⟩
        rw [show y.a + (t : Int) = y.b by omega]
        refine ⟨(r1digits_any y.b w4 (i64_nat (by omega))).mono fun e w5 ⟨he, k5⟩ => ⟨_, he, .of_k0 k5, nneg (by simp only [z45]; omega), nneg (by simp only [ByteArray.size_append, z44, z45]; omega), ?_⟩⟩
        rw [inc64 (by omega)]
        refine ⟨⟨offI l j + 1, j + 1, ?_, by omega, by omega, fun j' e => ?_, ((k2.trans k3).trans k4).trans k5⟩, by simp only [Int.toNat_natCast]; omega⟩
        · rw [hnew]
          unfold ivT
          rw [if_pos hg]
          simp only [ByteArray.append_assoc]
        · cases e; omega
      · have hg : ¬ y.a < y.b := by simp only [decide_eq_false_iff_not] at hg; omega
        rw [inc64 (by omega)]
        refine ⟨⟨offI l j + 1, j + 1, ?_, by omega, by omega, fun j' e => ?_, (k2.trans k3).trans k4⟩, by simp only [Int.toNat_natCast]; omega⟩
        · rw [hnew]
          unfold ivT
          rw [if_neg hg]
        · cases e; omega

    · have kW : K0 w W := k1.trans (hW.kk rfl)
      have hj0 : j = 0 := by
        cases j with
        | zero => rfl
        | succ j' =>
          have := hlo j' rfl
          simp only [decide_eq_false_iff_not] at h0
          omega
      have hnew : rngT (l.take (j + 1)) = rngT (l.take j) ++ ivT y := by
        rw [rngT_snoc hy, if_pos hj0, hj0]
        exact (nil_app _).symm

      refine ⟨fun vs w' => ∃ t : Nat, vs = [.int .i64 ((offI l j + t : Nat) : Int)] ∧ (t : Int) ≤ y.b - y.a ∧ K0 w w', fun vs _ => (match vs with | .int _ a :: _ => (exI l).length - a.toNat | _ => 0), ⟨0, rfl, by omega, kW⟩, ?_⟩
      rintro xk w2 ⟨t, hv, ht, k2⟩
      simp only [List.cons.injEq, Value.int.injEq, true_and, and_true] at hv
      subst hv
      have hkt := getI hy ht
      have hktl := (List.getElem?_eq_some_iff.1 hkt).1
      obtain ⟨v1, b1, o1, hv1, hp1, hat1⟩ := (hR.row.k0 k2).get hktl
      rw [hkt] at hv1
      cases hv1
      rw [Nat.mul_one] at hat1
      have hc1 := hat1.cell (j := 0) rfl
      rw [Nat.add_zero] at hc1
      obtain ⟨v0, b0, o0, hv0, hp0, hat0⟩ := (hR.row.k0 k2).get (k := offI l j) hlt
      have hst := getI (t := 0) hy (by omega)
      rw [Nat.add_zero, hv0] at hst
      have hst : v0 = y.a + (0 : Nat) := Option.some.inj hst
      have hst : v0 = y.a := by omega
      subst hst
      rw [Nat.mul_one] at hat0
      have hc0 := hat0.cell (j := 0) rfl
      rw [Nat.add_zero] at hc0
      have hnext : offI l j + t + 1 < (exI l).length → ∃ b o, p = some ⟨b, o, none⟩ ∧ w2.cell? ⟨b, o + (offI l j + t + 1), none⟩ = some (.int .i64 (((exI l)[offI l j + t + 1]?).getD 0)) := fun hlt2 => by
        obtain ⟨v2, b2, o2, hv2, hp2, hat2⟩ := (hR.row.k0 k2).get hlt2
        rw [Nat.mul_one] at hat2
        have hc2 := hat2.cell (j := 0) rfl
        rw [Nat.add_zero] at hc2
        exact ⟨b2, o2, hp2, by rw [hv2]; exact hc2⟩
      have hadd : offI l (j + 1) = offI l j + (y.b - y.a + 1).toNat := offI_succ hy
      rw [inc64 (by omega)]
      simp only [Int.toNat_natCast]
      refine nn_is hp1 ⟨gimp_intro fun h => ⟨by omega, by simp only [decide_eq_true_eq] at h; exact h⟩, ((exI l)[offI l j + t + 1]?).getD 0, gimp_intro fun h W3 hW3 => ?_, nn_is hp1 ⟨gimp_intro fun _ => ⟨by omega, by omega⟩, y.a + (t : Int), gimp_intro fun _ W3 hW3 => (hW3.kk rfl : K0 w2 W3).cell' hc1 (fun h => h), bsp_intro (fun hb W3 hW3 => ?_) (fun hb => ?_)⟩⟩
      · obtain ⟨b2, o2, hp2, hc2⟩ := hnext (by simp only [decide_eq_true_eq] at h; omega)
        rw [hp1] at hp2
        cases hp2
        exact (hW3.kk rfl : K0 w2 W3).cell' hc2 (fun h => h)
      · rw [wr64 (x := y.a + (t : Int) + 1) (by omega) (by omega)] at hb
        simp only [Bool.and_eq_true, decide_eq_true_eq, beq_iff_eq] at hb
        obtain ⟨hb1, hb2⟩ := hb
        have hlt2 : offI l j + t + 1 < (exI l).length := by omega
        obtain ⟨v2, hv2⟩ : ∃ v2, (exI l)[offI l j + t + 1]? = some v2 := ⟨_, List.getElem?_eq_getElem hlt2⟩
        rw [hv2] at hb2
        have hb2 : v2 = y.a + (t : Int) + 1 := hb2
        have ht2 : ((t + 1 : Nat) : Int) ≤ y.b - y.a := by
          rcases Int.lt_or_le (t : Int) (y.b - y.a) with h | h
          · omega
          · exfalso
            have e1 : offI l j + t + 1 = offI l (j + 1) := by omega
            rw [e1] at hv2
            have := endI hiv hy hv2
            omega
        exact ⟨⟨t + 1, rfl, ht2, k2.trans (hW3.kk rfl)⟩, by omega⟩
      rw [wr64 (x := y.a + (t : Int) + 1) (by omega) (by omega)] at hb
      have hend : (t : Int) = y.b - y.a := by
        rcases Int.lt_or_le (t : Int) (y.b - y.a) with h | h
        · exfalso
          have h2 := getI (t := t + 1) hy (by omega)
          rw [show offI l j + (t + 1) = offI l j + t + 1 by omega] at h2
          have h3 := (List.getElem?_eq_some_iff.1 h2).1
          rw [h2] at hb
          simp only [Option.getD_some] at hb
          have e1 : decide (((offI l j + t + 1 : Nat) : Int) < ((exI l).length : Int)) = true := by simp only [decide_eq_true_eq]; omega
          have e2 : (y.a + ((t + 1 : Nat) : Int) == y.a + (t : Int) + 1) = true := by simp only [beq_iff_eq]; omega
          rw [e1, e2] at hb
          cases hb
        · omega
      have z1 := decI_size (i64_nat (x := y.a) (by omega))
      have z2 := decI_size (i64_nat (x := y.b) (by omega))
      refine nn_is hp0 ⟨⟨by omega, by omega⟩, y.a, fun W3 hW3 => (hW3.kk rfl : K0 w2 W3).cell' hc0 (fun h => h), fun W3 hW3 => ?_⟩
      have k3 : K0 w2 W3 := hW3.kk rfl
      refine ⟨(r1digits_any y.a W3 (i64_nat (by omega))).mono fun e w4 ⟨he, k4⟩ => ⟨_, he, .of_k0 k4, nneg (by omega), bsp_intro (fun hg => ?_) (fun hg => ?_)⟩⟩
      · have hg : y.a < y.b := by simp only [decide_eq_true_eq] at hg; omega
        have hc4 := (k3.trans k4).cell' hc1 (fun h => h)
        refine nn_is hp1 ⟨⟨by omega, by omega⟩, y.a + (t : Int), hc4, ?_⟩
        rw [show y.a + (t : Int) = y.b by omega]
        refine ⟨(r1digits_any y.b w4 (i64_nat (by omega))).mono fun e w5 ⟨he, k5⟩ => ⟨_, he, .of_k0 k5, nneg (by simp only [z45]; omega), nneg (by simp only [ByteArray.size_append, z45]; omega), ?_⟩⟩
        rw [inc64 (by omega)]
        refine ⟨⟨offI l j + 1, j + 1, ?_, by omega, by omega, fun j' e => ?_, ((k2.trans k3).trans k4).trans k5⟩, by simp only [Int.toNat_natCast]; omega⟩
        · rw [hnew]
          unfold ivT
          rw [if_pos hg]
          simp only [ByteArray.append_assoc]
        · cases e; omega
      · have hg : ¬ y.a < y.b := by simp only [decide_eq_false_iff_not] at hg; omega
        rw [inc64 (by omega)]
        refine ⟨⟨offI l j + 1, j + 1, ?_, by omega, by omega, fun j' e => ?_, (k2.trans k3).trans k4⟩, by simp only [Int.toNat_natCast]; omega⟩
        · rw [hnew]
          unfold ivT
          rw [if_neg hg]
        · cases e; omega

  · have hi2 : i = (exI l).length := by
      have := offI_mono (l := l) hj
      rw [offI_all] at this
      simp only [decide_eq_false_iff_not] at hge
      omega
    have hjl : j = l.length := by
      rcases Nat.lt_or_ge j l.length with h | h
      · exfalso
        obtain ⟨y, hy⟩ : ∃ y, l[j]? = some y := ⟨_, List.getElem?_eq_getElem h⟩
        have hym := hiv.mem y (List.mem_of_getElem? hy)
        have h1 := offI_succ hy
        have h2 := offI_mono (l := l) (i := j + 1) (j := l.length) (by omega)
        rw [offI_all] at h2
        omega
      · omega
    rw [hjl, List.take_length]
    exact ⟨rfl, k1⟩
end

end Go.Proofs.YtgmmoghagpmpfaaGreatDoor

/- Chapter 27: the reference's Print. Printed by mkxp27.py. Lists of numbers are not too long. -/
namespace Go.Proofs.YtgmmoghagpmpfaaGreatDoor
open Go.RowKit Go.Sort Go.Maps

theorem z32 : (ByteArray.mk #[32]).size = 1 := rfl
theorem z10 : (ByteArray.mk #[10]).size = 1 := rfl
theorem lnT_some {s : ByteArray} {v : Gv} (h : v.l ≠ []) : lnT (s, v) = s ++ ⟨#[32]⟩ ++ decI v.h ++ (⟨#[32]⟩ ++ ynT v.c) ++ (⟨#[32]⟩ ++ rngT v.l) ++ ⟨#[10]⟩ := by
  unfold lnT wdT
  cases hv : v.l with
  | nil => exact absurd hv h
  | cons a t =>
    simp only
    show (s ++ ⟨#[32]⟩ ++ decI v.h ++ ⟨#[32]⟩ ++ ynT v.c ++ ⟨#[32]⟩ ++ rngT (a :: t)) ++ ⟨#[10]⟩ = _
    simp only [ByteArray.append_assoc]
theorem lnT_none {s : ByteArray} {v : Gv} (h : v.l = []) : lnT (s, v) = s ++ ⟨#[32]⟩ ++ decI v.h ++ (⟨#[32]⟩ ++ ynT v.c) ++ ⟨#[10]⟩ := by
  unfold lnT wdT
  rw [h]
  simp only
  show (s ++ ⟨#[32]⟩ ++ decI v.h ++ ⟨#[32]⟩ ++ ynT v.c) ++ ⟨#[10]⟩ = _
  simp only [ByteArray.append_assoc]
section
variable {w : World} {p : Option Addr} {R : List Rx} {A : TA}
set_option maxRecDepth 100000 in
set_option maxHeartbeats 8000000 in
theorem acxprint_any (hT : RowT w p R A) (hwf : WF A) (hn : A.length ≤ 4096) (hsm : Sm 1000000 A) (c : Nat) :
    Calls Tryz.prog 23 #[.slice p A.length c] w fun e w' => e = .returned (.string (prT A)) ∧ K0 w w' := by
  have hln : ∀ q ∈ A, LnOK q.1 q.2 ∧ q.2.l.length ≤ 1000000 := fun q hq => ⟨hwf.ln hq, Nat.le_trans (ivs_len (hwf.iv q hq)) (hsm.len hwf hq)⟩
  refine vc_acxprint p A.length c w _ ⟨fun vs w' => ∃ i : Nat, vs = [.int .i64 (i : Int), .string (prT (A.take i))] ∧ i ≤ A.length ∧ K0 w w', fun vs _ => (match vs with | .int _ a :: _ => A.length - a.toNat | _ => 0), ⟨0, rfl, by omega, .refl _ _⟩, ?_⟩
  rintro xi xs w1 ⟨i, hv, hi, k1⟩
  simp only [List.cons.injEq, Value.int.injEq, Value.string.injEq, true_and, and_true] at hv
  obtain ⟨rfl, rfl⟩ := hv
  refine bsp_intro (fun hlt W hW => ?_) (fun hge => ?_)
  · have hlt : i < A.length := by simp only [decide_eq_true_eq] at hlt; omega
    have kW : K0 w1 W := hW.kk rfl
    have hlenR := hT.len
    obtain ⟨x, b, o, hx, hp, hat⟩ := (hT.row.k0 (k1.trans kW)).get (k := i) (by omega)
    have hxA := hT.at hx
    have hmx := List.mem_of_getElem? hx
    have hmA := List.mem_of_getElem? hxA
    obtain ⟨hnm, hh0, hh1, hiv⟩ := hwf.get (hT.found hwf.dis hx)
    have hle : (exI x.v.l).length ≤ 1000000 := hsm.len hwf hmA
    have z1 := name_size hnm
    have z2 := decI_size (i64_nat (x := x.v.h) ⟨hh0, hh1⟩)
    have z3 := rngT_size hh1 hiv
    have z4 := prT_size (A := A.take i) (fun q hq => hln q (List.take_subset _ _ hq))
    have z5 : (A.take i).length = i := by rw [List.length_take]; omega
    have z6 := ivs_len hiv
    rw [z5] at z4
    rw [Int.toNat_natCast]
    refine ⟨fun w' => K0 W w', .refl _ _, nn_is hp ⟨⟨by omega, by omega⟩, x.s, fun w' k => (hat.k0 k).cell (j := 0) rfl, nneg (by simp only [z32]; omega), nn_is hp ⟨⟨by omega, by omega⟩, x.v.h, fun w' k => (hat.k0 k).cell (j := 1) rfl, ?_⟩⟩⟩
    refine ⟨(r1digits_any x.v.h W (i64_nat ⟨hh0, hh1⟩)).mono fun e w2 ⟨he, k2⟩ => ⟨_, he, k2, nneg (by simp only [ByteArray.size_append, z32]; omega), nneg (by simp only [ByteArray.size_append, z32]; omega), .of_k0 k2, ?_⟩⟩
    have hat2 := hat.k0 k2
    have k12 := (k1.trans kW).trans k2
    refine nn_is hp ⟨⟨by omega, by omega⟩, x.v.c, hat2.cell (j := 3) rfl, bsp_intro (fun hb => ?_) (fun hb => ?_)⟩

    · have hb : x.v.c = true := hb
      have eY : (⟨#[32, 110]⟩ : ByteArray) = ⟨#[32]⟩ ++ ynT x.v.c := by unfold ynT; rw [hb]; rfl
      have zY : (ByteArray.mk #[32, 110]).size = 2 := rfl
      refine ⟨nneg (by simp only [ByteArray.size_append, z32, zY]; omega), nn_is hp ⟨⟨by omega, by omega⟩, x.q, (exI x.v.l).length, x.d, hat2.cell (j := 2) rfl, bsp_intro (fun h0 => nn_is hp ⟨⟨by omega, by omega⟩, x.q, (exI x.v.l).length, x.d, hat2.cell (j := 2) rfl, ?_⟩) (fun h0 => ⟨nneg (by simp only [ByteArray.size_append, z32, zY, z10]; omega), ?_⟩)⟩⟩
      · have h0 : x.v.l ≠ [] := fun e => by rw [e] at h0; cases h0
        refine ⟨(acxranges_any x.v.l x.q x.d ((hT.sub x hmx).k0 k12) hiv hh1 hle).mono fun e w3 ⟨he, k3⟩ => ⟨_, he, .of_k0 k3, nneg (by simp only [z32]; omega), nneg (by simp only [ByteArray.size_append, z32, zY]; omega), nneg (by simp only [ByteArray.size_append, z32, zY, z10]; omega), ?_⟩⟩
        rw [inc64 (by omega)]
        refine ⟨⟨i + 1, ?_, hlt, k12.trans k3⟩, by simp only [Int.toNat_natCast]; omega⟩
        rw [take_snoc hxA, prT_snoc, lnT_some h0, eY]
        simp only [ByteArray.append_assoc]
      · have h0 : x.v.l = [] := by
          have h1 : exI x.v.l = [] := List.eq_nil_of_length_eq_zero (by simp only [decide_eq_false_iff_not] at h0; omega)
          exact (exI_nil hiv).1 h1
        rw [inc64 (by omega)]
        refine ⟨⟨i + 1, ?_, hlt, k12⟩, by simp only [Int.toNat_natCast]; omega⟩
        rw [take_snoc hxA, prT_snoc, lnT_none h0, eY]
        simp only [ByteArray.append_assoc]

    · have hb : x.v.c = false := hb
      have eY : (⟨#[32, 121]⟩ : ByteArray) = ⟨#[32]⟩ ++ ynT x.v.c := by unfold ynT; rw [hb]; rfl
      have zY : (ByteArray.mk #[32, 121]).size = 2 := rfl
      refine ⟨nneg (by simp only [ByteArray.size_append, z32, zY]; omega), nn_is hp ⟨⟨by omega, by omega⟩, x.q, (exI x.v.l).length, x.d, hat2.cell (j := 2) rfl, bsp_intro (fun h0 => nn_is hp ⟨⟨by omega, by omega⟩, x.q, (exI x.v.l).length, x.d, hat2.cell (j := 2) rfl, ?_⟩) (fun h0 => ⟨nneg (by simp only [ByteArray.size_append, z32, zY, z10]; omega), ?_⟩)⟩⟩
      · have h0 : x.v.l ≠ [] := fun e => by rw [e] at h0; cases h0
        refine ⟨(acxranges_any x.v.l x.q x.d ((hT.sub x hmx).k0 k12) hiv hh1 hle).mono fun e w3 ⟨he, k3⟩ => ⟨_, he, .of_k0 k3, nneg (by simp only [z32]; omega), nneg (by simp only [ByteArray.size_append, z32, zY]; omega), nneg (by simp only [ByteArray.size_append, z32, zY, z10]; omega), ?_⟩⟩
        rw [inc64 (by omega)]
        refine ⟨⟨i + 1, ?_, hlt, k12.trans k3⟩, by simp only [Int.toNat_natCast]; omega⟩
        rw [take_snoc hxA, prT_snoc, lnT_some h0, eY]
        simp only [ByteArray.append_assoc]
      · have h0 : x.v.l = [] := by
          have h1 : exI x.v.l = [] := List.eq_nil_of_length_eq_zero (by simp only [decide_eq_false_iff_not] at h0; omega)
          exact (exI_nil hiv).1 h1
        rw [inc64 (by omega)]
        refine ⟨⟨i + 1, ?_, hlt, k12⟩, by simp only [Int.toNat_natCast]; omega⟩
        rw [take_snoc hxA, prT_snoc, lnT_none h0, eY]
        simp only [ByteArray.append_assoc]

  · have hi2 : i = A.length := by simp only [decide_eq_false_iff_not] at hge; omega
    rw [hi2, List.take_length]
    exact ⟨rfl, k1⟩
end

end Go.Proofs.YtgmmoghagpmpfaaGreatDoor

/- The formulas of functions by the symbolic evaluator, and that each gives the call's contract. Written by a program (gen.py). No condition. -/
namespace Go.Proofs.YtgmmoghagpmpfaaGreatDoor
set_option maxRecDepth 100000
set_option linter.unusedVariables false

def VC_aclprints (p : Option Addr) (n : Nat) (c : Nat) (k : Int) (q : Option Addr) (m : Nat) (d : Nat) (a : Int) (w : World) (R : Ending → World → Prop) : Prop :=
 ∀ (n_1 : Nat) (W : World),
 Loc w.heap.size [Blk.mk n_1 50 [Value.int IntKind.u8 k, Value.slice q m d, Value.int IntKind.i64 a] 2] w W →
 CallsS Tryz.prog 15 #[] W fun (e : Ending) (w' : World) =>
 ∃ (x : Bool),
 e = Ending.returned (Value.bool x) ∧
 KeptL [n_1] W w' ∧
 bsp (!x) (R (Ending.returned (Value.bool false)) w')
 (CallsS Tryz.prog 22 #[Value.slice p n c] w' fun (e : Ending) (w'_1 : World) =>
 ∃ (x : Option Addr),
 ∃ (p : Option Addr),
 ∃ (n : Nat),
 ∃ (c : Nat),
 ∃ (x_1 : Bool),
 e = Ending.returned (Value.tuple #[Value.pointer x, Value.slice p n c, Value.bool x_1]) ∧
 KeptL [n_1] w' w'_1 ∧
 CallsS Tryz.prog 17 #[Value.pointer x] w'_1 fun (e : Ending) (w' : World) =>
 ∃ (x_2 : ByteArray),
 e = Ending.returned (Value.string x_2) ∧
 KeptL [n_1] w'_1 w' ∧
 CallsS Tryz.prog 13 #[Value.string x_2] w' fun (e : Ending) (w'_2 : World) =>
 ∃ (x_3 : Option Addr),
 ∃ (x_4 : Int),
 ∃ (x_5 : Int),
 e =
 Ending.returned
 (Value.tuple #[Value.pointer x_3, Value.int IntKind.i64 x_4, Value.int IntKind.i64 x_5]) ∧
 KeptL [n_1] w' w'_2 ∧
 bsp (!!x_1)
 (CallsS Tryz.prog 23 #[Value.slice p n c] w'_2 fun (e : Ending) (w' : World) =>
 ∃ (x_6 : ByteArray),
 e = Ending.returned (Value.string x_6) ∧
 KeptL [n_1] w'_2 w' ∧
 bsp (!(false || !x_2.toList == x_6.toList || x_4 != 0 || x_5 != 0 || x_3.isNone))
 (CallsS Tryz.prog 24 #[Value.pointer x_3, Value.pointer x] w'
 fun (e : Ending) (w'_3 : World) =>
 ∃ (x_7 : Bool),
 e = Ending.returned (Value.bool x_7) ∧
 KeptL [n_1] w' w'_3 ∧
 bsp (!(false || !x_7))
 (CallsS Tryz.prog 24 #[Value.pointer x, Value.pointer x_3] w'_3
 fun (e : Ending) (w' : World) =>
 ∃ (x : Bool),
 e = Ending.returned (Value.bool x) ∧
 KeptL [n_1] w'_3 w' ∧
 bsp (!(false || !x))
 (CallsS Tryz.prog 17 #[Value.pointer x_3] w' fun (e : Ending) (w'_4 : World) =>
 ∃ (x : ByteArray),
 e = Ending.returned (Value.string x) ∧
 KeptL [n_1] w' w'_4 ∧
 bsp (false || !x.toList == x_2.toList)
 (R (Ending.returned (Value.bool false)) w'_4)
 (CallsS Tryz.prog 20
 #[Value.pointer x_3, Value.slice p n c,
 Value.agg
 #[Value.int IntKind.u8 k, Value.slice q m d, Value.int IntKind.i64 a]]
 w'_4 fun (e : Ending) (w' : World) =>
 ∃ (p : Option Addr),
 ∃ (n : Nat),
 ∃ (c : Nat),
 ∃ (x : Bool),
 e =
 Ending.returned (Value.tuple #[Value.slice p n c, Value.bool x]) ∧
 KeptL [n_1] w'_4 w' ∧ R (Ending.returned (Value.bool x)) w'))
 (KeptL [n_1] w' w' ∧ R (Ending.returned (Value.bool false)) w'))
 (KeptL [n_1] w'_3 w'_3 ∧
 KeptL [n_1] w'_3 w'_3 ∧ R (Ending.returned (Value.bool false)) w'_3))
 (KeptL [n_1] w' w' ∧
 KeptL [n_1] w' w' ∧ KeptL [n_1] w' w' ∧ R (Ending.returned (Value.bool false)) w'))
 (KeptL [n_1] w'_2 w'_2 ∧
 KeptL [n_1] w'_2 w'_2 ∧
 KeptL [n_1] w'_2 w'_2 ∧
 KeptL [n_1] w'_2 w'_2 ∧ R (Ending.returned (Value.bool false)) w'_2))
theorem vc_aclprints (p : Option Addr) (n : Nat) (c : Nat) (k : Int) (q : Option Addr) (m : Nat) (d : Nat) (a : Int) (w : World) (R : Ending → World → Prop) (h : VC_aclprints p n c k q m d a w R) : Calls Tryz.prog 5 ([Value.slice
    p n c,
  Value.agg #[Value.int IntKind.u8 k, Value.slice q m d, Value.int IntKind.i64 a]] : List Value).toArray w R := by
  have e : execR2 { P := Tryz.prog, loops := [], pur := pur1, tails := [], joins := [], boxes := [] } Tryz.f5.results.toList R (Tryz.f5.body.getD .skip) (initF [Value.slice
    p n c,
  Value.agg
    #[Value.int IntKind.u8 k, Value.slice q m d,
      Value.int IntKind.i64
        a]] (Tryz.f5.ntmps - ([Value.slice p n c,
  Value.agg
    #[Value.int IntKind.u8 k, Value.slice q m d,
      Value.int IntKind.i64 a]] : List Value).length)) w = VC_aclprints p n c k q m d a w R := by kernel_rfl
  have hb : Tryz.f5.body = some (Tryz.f5.body.getD .skip) := by kernel_rfl
  exact calls_of_exec2' (P := Tryz.prog) (fn := Tryz.f5) (c := Tryz.f5.body.getD .skip) (args := [Value.slice p n c,
  Value.agg
    #[Value.int IntKind.u8 k, Value.slice q m d, Value.int IntKind.i64 a]]) (w := w) (R := R) pur1_ok Tryz.func5 hb e h

end Go.Proofs.YtgmmoghagpmpfaaGreatDoor

/- Chapter 27: ActivePrints on worlds. The library's variable MaxLen holds a number, its table of powers of ten reads as laid. -/
namespace Go.Proofs.YtgmmoghagpmpfaaGreatDoor
open Go.RowKit Go.Sort Go.Maps

theorem ynT_one (c : Bool) : (ynT c).size = 1 := by unfold ynT; split <;> rfl
theorem lnT_small {s : ByteArray} {v : Gv} {N : Nat} (h : LnOK s v) (hl : v.l.length ≤ N) : (lnT (s, v)).size ≤ 44 * N + 200 := by
  have h1 := name_size h.nm
  have h2 := decI_size (i64_nat (x := v.h) ⟨h.h0, h.hi⟩)
  have h3 := ynT_one v.c
  have h4 := rngT_size h.hi h.iv
  by_cases e : v.l = []
  · rw [lnT_none e]
    simp only [ByteArray.size_append, z32, z10]
    omega
  · rw [lnT_some e]
    simp only [ByteArray.size_append, z32, z10]
    omega
theorem pr_small {N : Nat} : ∀ {A : TA}, (∀ p ∈ A, LnOK p.1 p.2 ∧ p.2.l.length ≤ N) → (prT A).size ≤ A.length * (44 * N + 200)
  | [], _ => Nat.zero_le _
  | p :: A, h => by
    have h1 : (lnT p).size ≤ 44 * N + 200 := lnT_small (h p List.mem_cons_self).1 (h p List.mem_cons_self).2
    have h2 := pr_small (fun q hq => h q (List.mem_cons_of_mem _ hq))
    rw [prT_cons, ByteArray.size_append, List.length_cons, Nat.succ_mul]
    omega
set_option maxHeartbeats 4000000 in
theorem lacprints_any (p0 : Option Addr) (c0 : Nat) (L0 : List OpY) (x : OpY) (w : World) (hR0 : RowA opC27 3 w p0 L0) (hL0 : ∀ x ∈ L0, OpR27 w x) (hn0 : L0.length ≤ 4611686018427387904) (hx : OpR27 w x) (hG : GW w) (hGT : GT w) :
    Calls Tryz.prog 5 #[.slice p0 L0.length c0, .agg (opC27 x).toArray] w fun e w' => e = .returned (.bool true) ∧ K0 w w' := by
  refine vc_aclprints p0 L0.length c0 x.k x.p x.gs.length x.c x.a w _ (fun n1 W hW => ?_)
  have kW : K0 w W := hW.kk rfl
  have hng : w.heap.size ≤ n1 := hW.fresh 0 rfl rfl
  have hnl := block_lt (hW.cells 0 rfl)
  simp only at hnl
  refine ⟨(acknown_any W (gk0 hG kW) (hGT.k0 kW)).mono fun e w1 ⟨he, k1⟩ => ⟨_, he, .of_k0 k1, bsp_intro (fun h => by cases h) (fun _ => ?_)⟩⟩
  have k01 := kW.trans k1
  refine ⟨(aclplay_any L0 p0 c0 w1 (hR0.k0 k01) (fun x hx => (hL0 x hx).k0 k01) hn0 (gk0 hG k01)).mono fun e w2 ⟨⟨b, mb, m, p, c, he, hq, R, hT, hc⟩, k2⟩ => ⟨_, _, _, _, _, he, .of_k0 k2, ?_⟩⟩
  have hok := plyT_ok (L0.take 40)
  have hl40 : (L0.take 40).length ≤ 40 := by rw [List.length_take]; omega
  generalize plyT (L0.take 40) = A at *
  generalize (L0.take 40).length = N at *
  have hlen := hok.len
  have hsm : Sm 1000000 A := hok.sm.mono (by omega)
  have k02 := k01.trans k2
  have hvl : ∀ p ∈ A, p.2.l.length ≤ 1000000 := fun x hx => by have := hok.ivl hx; omega
  refine ⟨(acprint_any hq (gk0 hG k02) (hGT.k0 k02) hvl).mono fun e w3 ⟨he, k3⟩ => ⟨_, he, .of_k0 k3, ?_⟩⟩
  have k03 := k02.trans k3
  have hsz : (prT A).size ≤ 1048576 := by
    have := pr_small (N := N) (A := A) (fun p hp => ⟨hok.wf.ln hp, hok.ivl hp⟩)
    have h2 : A.length * (44 * N + 200) ≤ 40 * 1960 := Nat.mul_le_mul (by omega) (by omega)
    omega
  have hpp := parse_print hok.wf (by omega : A.length ≤ 4096)
  refine ⟨(acparse_any (prT A) w3 hsz (gw_lt (gk0 hG k03)) (gk0 hG k03)).mono fun e w4 hP => ?_⟩
  rw [hpp] at hP
  obtain ⟨⟨d, md, n, he, hO⟩, k4⟩ := hP
  refine ⟨_, _, _, he, .of_k0 k4, bsp_intro (fun _ => ?_) (fun h => by cases h)⟩
  have k04 := k03.trans k4
  have k24 := k3.trans k4
  refine ⟨(acxprint_any (hT.k0 k24) hok.wf (by omega) hsm c).mono fun e w5 ⟨he, k5⟩ => ⟨_, he, .of_k0 k5, bsp_intro (fun _ => ?_) (fun h => by rw [str_beq] at h; simp at h)⟩⟩
  have k25 := k24.trans k5
  refine ⟨(acequal_any (hO.k0 k5) (hq.k0 k25)).mono fun e w6 ⟨⟨r, he, hr⟩, k6⟩ => ⟨_, he, .of_k0 k6, bsp_intro (fun _ => ?_) (fun h => by rw [hr.2 rfl] at h; cases h)⟩⟩
  have k26 := k25.trans k6
  refine ⟨(acequal_any (hq.k0 k26) ((hO.k0 k5).k0 k6)).mono fun e w7 ⟨⟨r1, he, hr1⟩, k7⟩ => ⟨_, he, .of_k0 k7, bsp_intro (fun _ => ?_) (fun h => by rw [hr1.2 rfl] at h; cases h)⟩⟩
  have k27 := k26.trans k7
  have k47 := (k5.trans k6).trans k7
  have k07 := k02.trans k27
  refine ⟨(acprint_any (hO.k0 k47) (gk0 hG k07) (hGT.k0 k07) hvl).mono fun e w8 ⟨he, k8⟩ => ⟨_, he, .of_k0 k8, bsp_intro (fun h => by rw [str_beq] at h; simp at h) (fun _ => ?_)⟩⟩
  have k08 := k07.trans k8
  refine ⟨(acldo_any (hO.k0 (k47.trans k8)) (hT.k0 (k27.trans k8)) hok.wf (by omega) hsm c hc x (hx.k0 k08) (gk0 hG k08)).mono fun e w9 ⟨⟨p9, c9, ok, he, _, hok9⟩, m9, hTs⟩ => ⟨_, _, _, _, he, .of_kp hTs.k (fun k hk e => ?_), ?_, hTs.base (hO.k0 (k47.trans k8)).z k08 k03.size⟩⟩
  · simp only [List.mem_cons, List.not_mem_nil, or_false] at hk
    have h1 := ((hO.k0 (k47.trans k8)).z.tb e).1
    have h2 := ((k1.trans k2).trans k3).size
    omega
  · rw [hok9 rfl]

end Go.Proofs.YtgmmoghagpmpfaaGreatDoor
